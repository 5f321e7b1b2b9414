/- The walk of the statement HeaderBack: it returns true. -/
import Derived.Test.YtgaibighfmcgoaaWrong
namespace Go.Proofs.Ytgaibighfmcgoaa.Hand
open Go.RowKit Go.Proofs.YtgaibighfmcgoaaW.PrintWords Go.Proofs.YtgaibighfmcgoaaW.PrintLast Go.Proofs.YtgaibighfmcgoaaW.PrintMore Go.Proofs.Ytgaibighfmcgoaa.PHdrA
attribute [local go_sem] max2_int min2_int max_two min_two
set_option linter.unusedVariables false
set_option linter.unusedSimpArgs false
def fill (X M : List Int) : Nat → List Int
  | 0 => X
  | i + 1 => (fill X M i).set (5 + i) (M.getD i 0)
theorem fill_len (X M : List Int) : ∀ i, (fill X M i).length = X.length
  | 0 => rfl
  | i + 1 => by rw [fill, List.length_set, fill_len X M i]
theorem fill_take (X M : List Int) : ∀ i, (fill X M i).take 5 = X.take 5
  | 0 => rfl
  | i + 1 => by rw [fill, List.take_set_of_le (by omega), fill_take X M i]
theorem fill_drop (X M : List Int) : ∀ i, i ≤ 15 → (fill X M i).drop 20 = X.drop 20
  | 0, _ => rfl
  | i + 1, h => by rw [fill, List.drop_set_of_lt (by omega), fill_drop X M i (by omega)]
theorem fill_bytes (X M : List Int) (hX : Bytes X) (hM : Bytes M) : ∀ i, i ≤ M.length → Bytes (fill X M i)
  | 0, _ => hX
  | i + 1, h => by
    refine set_bytes (fill_bytes X M hX hM i (by omega)) _ _ ?_
    rw [List.getD_eq_getElem?_getD, List.getElem?_eq_getElem (by omega)]
    exact hM _ (List.getElem_mem _)
theorem rd4_take (x : List Int) : rd x 4 = rd (x.take 5) 4 := by
  show rd x ((4 : Nat) : Int) = rd (x.take 5) ((4 : Nat) : Int)
  rw [rd_at, rd_at, List.getD_eq_getElem?_getD, List.getD_eq_getElem?_getD, List.getElem?_take_of_lt (by omega)]
theorem back_pure (v ut sd le ti ty ch : Int) (L M : List Int) (i : Nat) (hi : i ≤ 15) (hr : rightP v ut sd le ti ty ch) (hL : L = hbytes v ut sd le ti ty ch) : dec (fill (L ++ M) M i) = (v, ut, sd, le, ti, ty, ch, 0) := by
  have h44 : L.length = 44 := by rw [hL]; exact hbytes_len _ _ _ _ _ _ _
  have ht5 : (fill (L ++ M) M i).take 5 = L.take 5 := by rw [fill_take, List.take_append_of_le_length (by omega)]
  have h20 : (fill (L ++ M) M i).drop 20 = L.drop 20 ++ M := by rw [fill_drop _ _ _ hi, List.drop_append_of_le_length (by omega)]
  have hd : L.drop 20 = six4 ut sd le ti ty ch := by rw [hL]; exact hb_drop _ _ _ _ _ _ _
  refine dec_same _ v ut sd le ti ty ch hr (by rw [fill_len, List.length_append]; omega) ?_ ?_ ?_
  · have e : ((fill (L ++ M) M i).take 5).take 4 = (fill (L ++ M) M i).take 4 := by rw [List.take_take]; rfl
    have e2 : (L.take 5).take 4 = L.take 4 := by rw [List.take_take]; rfl
    rw [← e, ht5, e2, hL]
    exact hb_take4 _ _ _ _ _ _ _
  · rw [rd4_take, ht5, ← rd4_take, hL]
    exact hb_rd4 _ _ _ _ _ _ _
  · rw [h20, List.take_append_of_le_length (by rw [hd, six4_len]; omega), hd, List.take_of_length_le (by rw [six4_len]; omega)]
set_option maxHeartbeats 2000000 in
set_option maxRecDepth 100000 in
theorem back_walk (v ut sd le ti ty ch : Int) (A0 : Option Addr) (c0 : Nat) (l0 : List Int) (w : World) (hr0 : Kd.C (Kd.int .u8) w A0 l0.length l0) (hc0 : l0.length ≤ c0) (hb0 : Bytes l0) :
    Calls Try.prog 5 #[.agg #[.int .i64 v, .int .i64 ut, .int .i64 sd, .int .i64 le, .int .i64 ti, .int .i64 ty, .int .i64 ch], .slice A0 l0.length c0] w fun e w' => e = .returned (.bool true) ∧ Below w.heap.size w w' := by
  have hm0 := Kd.C_max hr0
  have hu23 := Try.underlying23
  have HB := Aside0.mk (Below.refl w.heap.size w)
  by_cases hr : rightP v ut sd le ti ty ch
  · have EN := Aside0.mk (encode_f 10 (by omega) v ut sd le ti ty ch hr)
    obtain ⟨L, hL⟩ : ∃ x, x = hbytes v ut sd le ti ty ch := ⟨_, rfl⟩
    have L44 := Aside0.mk (show L.length = 44 by rw [hL]; exact hbytes_len _ _ _ _ _ _ _)
    rw [← hL] at EN
    have HL := Aside0.mk hL
    have HRT := Aside0.mk hr
    obtain ⟨p, hp, p1, p2⟩ : ∃ p : Nat, (if 50 < (l0.length : Int) then 50 else (l0.length : Int)) = p ∧ p ≤ 50 ∧ p ≤ l0.length := ⟨min l0.length 50, by split <;> omega, by omega, by omega⟩
    obtain ⟨M, hM⟩ : ∃ M, M = l0.take p := ⟨_, rfl⟩
    have HM := Aside0.mk (show M.length = p by rw [hM, List.length_take]; omega)
    have HMB := Aside0.mk (show Bytes M by rw [hM]; exact hb0.take p)
    have HMC := Aside0.mk (show Kd.C (Kd.int .u8) w A0 p M from by rw [hM]; exact readsLen (by rw [List.length_take]; omega) (Kd.C_take hr0 p2))
    have hpc : p ≤ c0 := by omega
    clear hL hr hM hr0
    go_enter Try.func5, Try.ntmps5
    go_upto_region 3 with (first
                | ((with_reducible refine gate_dst (N := 2) rfl ?_); refine box_event ?hg (N := 2) ?hd (cs := #[.int .i64 v, .int .i64 ut, .int .i64 sd, .int .i64 le, .int .i64 ti, .int .i64 ty, .int .i64 ch]) (t := 23) ?hr ?_; (case hd => rfl); (case hg => rfl); (case hr => first | (go_simp; done) | (go_simp; rfl)); intro gh hg w1 hbox hb; have Bgh := Aside0.mk hbox; have GEgh := Aside0.mk (show w.heap.size ≤ gh by first | omega | (have h_ := below_size HB.out; omega)); clear hbox hg; have n0_ := Aside0.mk (below_step HB.out hb); clear HB; have HB := n0_; clear n0_ hb)
                | (go_at_call 9; refine (longcaselaw05_shown.calls true _ rfl).mono ?_; rintro e w2 ⟨rfl, hb⟩; have n0_ := Aside0.mk (blk_below Bgh.out hb); have n1_ := Aside0.mk (below_step HB.out hb); clear Bgh HB; have Bgh := n0_; have HB := n1_; clear n0_ n1_ hb; have a0 : w2.cell? ⟨gh, 0, none⟩ = some (.int .i64 v) := (blk_cell Bgh.out 0).trans rfl; have a1 : w2.cell? ⟨gh, 1, none⟩ = some (.int .i64 ut) := (blk_cell Bgh.out 1).trans rfl; have a2 : w2.cell? ⟨gh, 2, none⟩ = some (.int .i64 sd) := (blk_cell Bgh.out 2).trans rfl; have a3 : w2.cell? ⟨gh, 3, none⟩ = some (.int .i64 le) := (blk_cell Bgh.out 3).trans rfl; have a4 : w2.cell? ⟨gh, 4, none⟩ = some (.int .i64 ti) := (blk_cell Bgh.out 4).trans rfl; have a5 : w2.cell? ⟨gh, 5, none⟩ = some (.int .i64 ty) := (blk_cell Bgh.out 5).trans rfl; have a6 : w2.cell? ⟨gh, 6, none⟩ = some (.int .i64 ch) := (blk_cell Bgh.out 6).trans rfl)
                | (go_at_call 12; (with_reducible refine (header_Encode.calls 10 v ut sd le ti ty ch L 0 _ EN.out).mono ?_); rintro e w5 ⟨v5, rfl, ho, hb⟩; have n0_ := Aside0.mk (blk_below Bgh.out hb); have n1_ := Aside0.mk (below_step HB.out hb); clear Bgh HB; have Bgh := n0_; have HB := n1_; clear n0_ n1_ hb; have HO := Aside0.mk ho; clear ho))
    obtain ⟨A1, c1, rfl⟩ : ∃ A c, v5 = .slice A 44 c := by
      obtain ⟨A, c, e⟩ := Kd.R_slice HO.out
      rw [L44.out] at e
      exact ⟨A, c, e⟩
    have HC1 := Aside0.mk (show Kd.C (Kd.int .u8) w5 A1 44 L from by
      have h_ := (Kd.R_reads' HO.out).2.2
      first | exact h_ | rwa [L44.out] at h_)
    have HCC := (show 44 ≤ c1 from by
      have h_ := (Kd.R_reads' HO.out).2.1
      first | exact h_ | rwa [L44.out] at h_)
    clear HO a0 a1 a2 a3 a4 a5 a6
    go_upto_region 8 with (fail)
    refine forget_wp (fun wc => Aside0 (wc.heap[gh]? = some (.cells #[.int .i64 v, .int .i64 ut, .int .i64 sd, .int .i64 le, .int .i64 ti, .int .i64 ty, .int .i64 ch] 23 (0, 0))) ∧ Aside0 (Kd.C (Kd.int .u8) wc A1 44 L) ∧ Aside0 (Below w.heap.size w wc)) ⟨Bgh, HC1, HB⟩ ?_
    clear Bgh HC1 HB hp
    rintro wA ⟨Bgh, HC1, HB⟩
    have HBX := Aside0.mk (Below.refl wA.heap.size wA)
    have HMA := Aside0.mk (Kd.C_below HMC.out HB.out)
    go_upto_region 9 with (first
        | ((with_reducible refine gate_dst (N := 36) rfl ?_); refine Kd.R_lit (Kd.int .u8) wA.heap.size 5 ?hg (N := 36) ?hd (xs := ([] : List Int)) (inner := []) (ok := fun _ => True) (okp := fun _ => True) ?hr ?hp (fun _ hk => hk) trivial HBX.out (below_size HBX.out) (by simp) ?_; (case hd => rfl); (case hg => rfl); (case hr => first | (go_simp; done) | (go_simp; rfl)); (case hp => exact (Reps.none _ _)); intro v36 w6 ho hb hg_ hnew_; clear hg_ hnew_ HBX; have HX := Aside0.mk ho; have HBX := Aside0.mk hb; clear ho hb)
        | ((with_reducible refine gate_builtin (b := .append) (xs := #[.tmp 36, .tmp 37]) rfl ?_); at_builtin; refine Kd.R_append_row (Value.int .u8) 0 (w0 := wA) wA.heap.size ?y1 (.tmp 36) (.tmp 37) 28 5 (.int .u8 0) 1 ?y2 Try.underlying28 info5 ?y3 ?y4 v36 [] L A1 44 c1 (fun _ => True) ?y5 ?y6 ?y7 HX.out ?y8 HBX.out (below_size HBX.out) ?y9 ?_; (case y1 => rfl); (case y2 => rfl); (case y3 => rfl); (case y4 => decide); (case y5 => rfl); (case y6 => rfl); (case y7 => exact fun _ _ => trivial); (case y8 => exact Kd.C_below HC1.out HBX.out); (case y9 => (first | decide | (simp; omega))); intro v38 w7 ho hb hg hat; clear HX HBX hg hat; have HX := Aside0.mk ho; have HBX := Aside0.mk hb; clear ho hb)
        | ((with_reducible refine gate_builtin (b := .append) (xs := #[.tmp 38, .tmp 39]) rfl ?_); at_builtin; refine Kd.R_append_row (Value.int .u8) 0 (w0 := wA) wA.heap.size ?y1 (.tmp 38) (.tmp 39) 28 5 (.int .u8 0) 1 ?y2 Try.underlying28 info5 ?y3 ?y4 v38 ([] ++ L) M A0 p c0 (fun _ => True) ?y5 ?y6 ?y7 HX.out ?y8 HBX.out (below_size HBX.out) ?y9 ?_; (case y1 => rfl); (case y2 => rfl); (case y3 => rfl); (case y4 => decide); (case y5 => rfl); (case y6 => rfl); (case y7 => exact fun _ _ => trivial); (case y8 => exact Kd.C_below HMA.out HBX.out); (case y9 => (first | decide | (have h_ := L44.out; simp; omega))); intro v40 w8 ho hb hg hat; clear HX HBX hg hat; have HX := Aside0.mk ho; have HBX := Aside0.mk hb; clear ho hb))
    rw [List.nil_append] at HX
    obtain ⟨n, hn⟩ : ∃ n, n = 44 + p := ⟨_, rfl⟩
    have HLM := Aside0.mk (show (L ++ M).length = n by rw [List.length_append, L44.out, HM.out, hn])
    obtain ⟨gx, cx, rfl⟩ : ∃ g c, v40 = .slice (some ⟨g, 0, none⟩) n c := by
      obtain ⟨g, c, e⟩ := Joins.ownsRow_form (Kd.own_of_R HX.out) (by rw [HLM.out]; omega)
      rw [HLM.out] at e
      exact ⟨g, c, e⟩
    have n1 : 44 ≤ n := by omega
    have n2 : n ≤ 94 := by omega
    clear hn
    obtain ⟨t, t1, t2, t3⟩ : ∃ t : Nat, t ≤ 15 ∧ t ≤ p ∧ (t < 15 → t = p) := ⟨min 15 p, by omega, by omega, by omega⟩
    have t3 := Aside0.mk t3
    go_wp2
    go_loopw [9] (fun i wr => ∃ k : Nat, k ≤ t ∧ i = .int .i64 k ∧ Aside0 (Kd.R (Kd.int .u8) 5 wr wA.heap.size (fun _ => True) (.slice (some ⟨gx, 0, none⟩) n cx) (fill (L ++ M) M k)) ∧ Aside0 (Below wA.heap.size wA wr)) (fun i _ => t - (intOf i).toNat)
    case atStart => exact ⟨0, Nat.zero_le _, rfl, HX, HBX⟩
    case round =>
      clear HX HBX
      obtain ⟨k, hk, rfl, HX, HBX⟩ := hrel
      by_cases hlt : k < t
      · have k15 : decide ((k : Int) < 15) = true := decide_eq_true (by omega)
        have kp : decide (k < p) = true := decide_eq_true (by omega)
        have kp' : k < p := by omega
        have k15' : (k : Int) < 15 := by omega
        obtain ⟨ad, eA, hmx⟩ := Kd.at_int (readsLen HM.out.symm (Kd.C_below HMA.out HBX.out) : Kd.C (Kd.int .u8) wr A0 M.length M) (k : Int) (by omega) (by rw [HM.out]; omega)
        cases eA
        rw [Int.toNat_natCast] at hmx
        have hcl := Kd.R_cell 0 (show Kd.R (Kd.int .u8) 5 wr wA.heap.size (fun _ => True) (.slice (some ⟨gx, 0, none⟩) (fill (L ++ M) M k).length cx) (fill (L ++ M) M k) by rw [fill_len, HLM.out]; exact HX.out) (5 + (k : Int)) (by omega) (by rw [fill_len, HLM.out]; omega)
        obtain ⟨hc1, hc2⟩ := hcl
        have e5 : (5 + (k : Int)).toNat = 5 + k := by omega
        rw [e5] at hc1 hc2
        have eM : rd M (k : Int) = M.getD k 0 := rd_at M k
        have hst := Kd.R_putn HX.out (5 + (k : Int)) (M.getD k 0)
        rw [e5] at hst
        rw [eM] at hmx
        have HST := Aside0.mk (show Kd.R (Kd.int .u8) 5 (wr.setCell ⟨gx, 5 + k, none⟩ (.int .u8 (M.getD k 0))) wA.heap.size (fun _ => True) (.slice (some ⟨gx, 0, none⟩) n cx) (fill (L ++ M) M (k + 1)) from hst)
        clear eM hst
        generalize M.getD k 0 = X at *
        go_wp2
        go_roundw
        case rel => exact ⟨k + 1, by omega, by go_num, HST, ⟨below_set HBX.out (Kd.R_base HX.out _ rfl)⟩⟩
        case measure => simp [intOf]; omega
      · obtain rfl : k = t := by omega
        have hD := back_pure v ut sd le ti ty ch L M k t1 HRT.out HL.out
        have HXB := Aside0.mk (show Bytes (fill (L ++ M) M k) from fill_bytes _ _ ((show Bytes L by rw [HL.out]; exact hb_bytes _ _ _ _ _ _ _).append HMB.out) HMB.out k (by rw [HM.out]; exact t2))
        have HXL := Aside0.mk (show (fill (L ++ M) M k).length = n by rw [fill_len]; exact HLM.out)
        have hcx : n ≤ cx := (Kd.R_reads' HX.out).2.1
        have HXC := Aside0.mk (show Kd.C (Kd.int .u8) wr (some ⟨gx, 0, none⟩) n (fill (L ++ M) M k) from by
          have h_ := (Kd.R_reads' HX.out).2.2
          rwa [HXL.out] at h_)
        have HD1 := Aside0.mk hD
        have D2 : dec (L.take 43) = (0, 0, 0, 0, 0, 0, 0, 5) := dec_short _ (by rw [List.length_take]; omega)
        have HD2 := Aside0.mk D2
        have HL43 := Aside0.mk (show (L.take 43).length = 43 by rw [List.length_take, L44.out]; rfl)
        have HB43 := Aside0.mk (show Bytes (L.take 43) by rw [HL.out]; exact (hb_bytes _ _ _ _ _ _ _).take 43)
        have HC43 := Aside0.mk (show Kd.C (Kd.int .u8) wA A1 43 (L.take 43) from readsLen HL43.out (Kd.C_take (readsLen L44.out.symm HC1.out : Kd.C (Kd.int .u8) wA A1 L.length L) (by rw [L44.out]; decide)))
        clear hD D2 HX
        generalize fill (L ++ M) M k = Y at *
        generalize L.take 43 = Y2 at *
        have hc43 : 43 ≤ c1 := by omega
        by_cases h15 : (k : Int) < 15
        · have k15 : decide ((k : Int) < 15) = true := decide_eq_true h15
          obtain rfl : k = p := t3.out (by omega)
          have kp : decide (k < k) = false := decide_eq_false (by omega)
          go_upto_region 14 with (first
            | (go_at_call 17; refine (decode_c (some ⟨gx, 0, none⟩) cx n Y _ v ut sd le ti ty ch 0 HXL.out HXB.out HXC.out hcx HD1.out).mono ?_; rintro e w9 ⟨rfl, hb⟩; have n0_ := Aside0.mk (below_step HBX.out hb); clear HBX; have HBX := n0_; clear n0_ hb)
            | ((with_reducible refine gate_dst (N := 10) rfl ?_); refine box_event ?hg (N := 10) ?hd (cs := #[.int .i64 0, .int .i64 0, .int .i64 0, .int .i64 0, .int .i64 0, .int .i64 0, .int .i64 0]) (t := 23) ?hr ?_; (case hd => rfl); (case hg => rfl); (case hr => first | (go_simp; done) | (go_simp; rfl)); intro g10 hg w10 hbox hb; have Bg10 := Aside0.mk hbox; have GEg10 := Aside0.mk (show wA.heap.size ≤ g10 by first | omega | (have h_ := below_size HBX.out; omega)); clear hbox hg; have n0_ := Aside0.mk (below_step HBX.out hb); clear HBX; have HBX := n0_; clear n0_ hb; have z0 : w10.cell? ⟨g10, 0, none⟩ = some (.int .i64 0) := (blk_cell Bg10.out 0).trans rfl; have z1 : w10.cell? ⟨g10, 1, none⟩ = some (.int .i64 0) := (blk_cell Bg10.out 1).trans rfl; have z2 : w10.cell? ⟨g10, 2, none⟩ = some (.int .i64 0) := (blk_cell Bg10.out 2).trans rfl; have z3 : w10.cell? ⟨g10, 3, none⟩ = some (.int .i64 0) := (blk_cell Bg10.out 3).trans rfl; have z4 : w10.cell? ⟨g10, 4, none⟩ = some (.int .i64 0) := (blk_cell Bg10.out 4).trans rfl; have z5 : w10.cell? ⟨g10, 5, none⟩ = some (.int .i64 0) := (blk_cell Bg10.out 5).trans rfl; have z6 : w10.cell? ⟨g10, 6, none⟩ = some (.int .i64 0) := (blk_cell Bg10.out 6).trans rfl; have y0 := blk_frozen Bg10.out 0; have y1 := blk_frozen Bg10.out 1; have y2 := blk_frozen Bg10.out 2; have y3 := blk_frozen Bg10.out 3; have y4 := blk_frozen Bg10.out 4; have y5 := blk_frozen Bg10.out 5; have y6 := blk_frozen Bg10.out 6))
          refine forget_wp (fun wc => Aside0 (wc.heap[g10]? = some (.cells #[.int .i64 v, .int .i64 ut, .int .i64 sd, .int .i64 le, .int .i64 ti, .int .i64 ty, .int .i64 ch] 23 (0, 0))) ∧ Aside0 (Below wA.heap.size wA wc)) ⟨⟨put7_at Bg10.out⟩, ⟨put7_below HBX.out GEg10.out⟩⟩ ?_
          clear Bg10 HBX HXL HXB HXC HD1 z0 y0 z1 y1 z2 y2 z3 y3 z4 y4 z5 y5 z6 y6
          rintro w11 ⟨Bg10, HBX⟩
          go_upto_region 15 with (first
            | (go_at_call 17; refine (decode_c A1 c1 43 Y2 _ 0 0 0 0 0 0 0 5 HL43.out HB43.out (Kd.C_below HC43.out HBX.out) hc43 HD2.out).mono ?_; rintro e w12 ⟨rfl, hb⟩; have n0_ := Aside0.mk (blk_below Bg10.out hb); have n1_ := Aside0.mk (below_step HBX.out hb); clear Bg10 HBX; have Bg10 := n0_; have HBX := n1_; clear n0_ n1_ hb)
            | ((with_reducible refine gate_dst (N := 12) rfl ?_); refine box_event ?hg (N := 12) ?hd (cs := #[.int .i64 0, .int .i64 0, .int .i64 0, .int .i64 0, .int .i64 0, .int .i64 0, .int .i64 0]) (t := 23) ?hr ?_; (case hd => rfl); (case hg => rfl); (case hr => first | (go_simp; done) | (go_simp; rfl)); intro g12 hg w13 hbox hb; have Bg12 := Aside0.mk hbox; have GEg12 := Aside0.mk (show wA.heap.size ≤ g12 by first | omega | (have h_ := below_size HBX.out; omega)); have N12 := Aside0.mk (show g10 ≠ g12 by have h_ := blk_lt Bg10.out; omega); clear hbox hg; have n0_ := Aside0.mk (blk_below Bg10.out hb); have n1_ := Aside0.mk (below_step HBX.out hb); clear Bg10 HBX; have Bg10 := n0_; have HBX := n1_; clear n0_ n1_ hb; have z0 : w13.cell? ⟨g12, 0, none⟩ = some (.int .i64 0) := (blk_cell Bg12.out 0).trans rfl; have z1 : w13.cell? ⟨g12, 1, none⟩ = some (.int .i64 0) := (blk_cell Bg12.out 1).trans rfl; have z2 : w13.cell? ⟨g12, 2, none⟩ = some (.int .i64 0) := (blk_cell Bg12.out 2).trans rfl; have z3 : w13.cell? ⟨g12, 3, none⟩ = some (.int .i64 0) := (blk_cell Bg12.out 3).trans rfl; have z4 : w13.cell? ⟨g12, 4, none⟩ = some (.int .i64 0) := (blk_cell Bg12.out 4).trans rfl; have z5 : w13.cell? ⟨g12, 5, none⟩ = some (.int .i64 0) := (blk_cell Bg12.out 5).trans rfl; have z6 : w13.cell? ⟨g12, 6, none⟩ = some (.int .i64 0) := (blk_cell Bg12.out 6).trans rfl; have y0 := blk_frozen Bg12.out 0; have y1 := blk_frozen Bg12.out 1; have y2 := blk_frozen Bg12.out 2; have y3 := blk_frozen Bg12.out 3; have y4 := blk_frozen Bg12.out 4; have y5 := blk_frozen Bg12.out 5; have y6 := blk_frozen Bg12.out 6))
          have NH := Aside0.mk (show gh ≠ g12 by have h_ := blk_lt Bgh.out; have h2_ := GEg12.out; omega)
          refine forget_wp (fun wc => Aside0 (wc.heap[gh]? = some (.cells #[.int .i64 v, .int .i64 ut, .int .i64 sd, .int .i64 le, .int .i64 ti, .int .i64 ty, .int .i64 ch] 23 (0, 0))) ∧ Aside0 (wc.heap[g10]? = some (.cells #[.int .i64 v, .int .i64 ut, .int .i64 sd, .int .i64 le, .int .i64 ti, .int .i64 ty, .int .i64 ch] 23 (0, 0))) ∧ Aside0 (Below w.heap.size w wc)) ⟨⟨put7_far (blk_below Bgh.out HBX.out) NH.out⟩, ⟨put7_far Bg10.out N12.out⟩, ⟨below_step HB.out (put7_below HBX.out GEg12.out)⟩⟩ ?_
          clear Bg10 Bg12 HBX HL43 HB43 HC43 HD2 Bgh HB z0 y0 z1 y1 z2 y2 z3 y3 z4 y4 z5 y5 z6 y6
          rintro w17 ⟨Bgh, Bg10, HB⟩
          have a0 : w17.cell? ⟨gh, 0, none⟩ = some (.int .i64 v) := (blk_cell Bgh.out 0).trans rfl; have a1 : w17.cell? ⟨gh, 1, none⟩ = some (.int .i64 ut) := (blk_cell Bgh.out 1).trans rfl; have a2 : w17.cell? ⟨gh, 2, none⟩ = some (.int .i64 sd) := (blk_cell Bgh.out 2).trans rfl; have a3 : w17.cell? ⟨gh, 3, none⟩ = some (.int .i64 le) := (blk_cell Bgh.out 3).trans rfl; have a4 : w17.cell? ⟨gh, 4, none⟩ = some (.int .i64 ti) := (blk_cell Bgh.out 4).trans rfl; have a5 : w17.cell? ⟨gh, 5, none⟩ = some (.int .i64 ty) := (blk_cell Bgh.out 5).trans rfl; have a6 : w17.cell? ⟨gh, 6, none⟩ = some (.int .i64 ch) := (blk_cell Bgh.out 6).trans rfl
          have b0 : w17.cell? ⟨g10, 0, none⟩ = some (.int .i64 v) := (blk_cell Bg10.out 0).trans rfl; have b1 : w17.cell? ⟨g10, 1, none⟩ = some (.int .i64 ut) := (blk_cell Bg10.out 1).trans rfl; have b2 : w17.cell? ⟨g10, 2, none⟩ = some (.int .i64 sd) := (blk_cell Bg10.out 2).trans rfl; have b3 : w17.cell? ⟨g10, 3, none⟩ = some (.int .i64 le) := (blk_cell Bg10.out 3).trans rfl; have b4 : w17.cell? ⟨g10, 4, none⟩ = some (.int .i64 ti) := (blk_cell Bg10.out 4).trans rfl; have b5 : w17.cell? ⟨g10, 5, none⟩ = some (.int .i64 ty) := (blk_cell Bg10.out 5).trans rfl; have b6 : w17.cell? ⟨g10, 6, none⟩ = some (.int .i64 ch) := (blk_cell Bg10.out 6).trans rfl
          have hE := fun d w => eqH_self d w v ut sd le ti ty ch
          go_wp2
          go_ret
          exact ⟨rfl, HB.out⟩
        · have k15 : decide ((k : Int) < 15) = false := decide_eq_false h15
          go_upto_region 14 with (first
            | (go_at_call 17; refine (decode_c (some ⟨gx, 0, none⟩) cx n Y _ v ut sd le ti ty ch 0 HXL.out HXB.out HXC.out hcx HD1.out).mono ?_; rintro e w9 ⟨rfl, hb⟩; have n0_ := Aside0.mk (below_step HBX.out hb); clear HBX; have HBX := n0_; clear n0_ hb)
            | ((with_reducible refine gate_dst (N := 10) rfl ?_); refine box_event ?hg (N := 10) ?hd (cs := #[.int .i64 0, .int .i64 0, .int .i64 0, .int .i64 0, .int .i64 0, .int .i64 0, .int .i64 0]) (t := 23) ?hr ?_; (case hd => rfl); (case hg => rfl); (case hr => first | (go_simp; done) | (go_simp; rfl)); intro g10 hg w10 hbox hb; have Bg10 := Aside0.mk hbox; have GEg10 := Aside0.mk (show wA.heap.size ≤ g10 by first | omega | (have h_ := below_size HBX.out; omega)); clear hbox hg; have n0_ := Aside0.mk (below_step HBX.out hb); clear HBX; have HBX := n0_; clear n0_ hb; have z0 : w10.cell? ⟨g10, 0, none⟩ = some (.int .i64 0) := (blk_cell Bg10.out 0).trans rfl; have z1 : w10.cell? ⟨g10, 1, none⟩ = some (.int .i64 0) := (blk_cell Bg10.out 1).trans rfl; have z2 : w10.cell? ⟨g10, 2, none⟩ = some (.int .i64 0) := (blk_cell Bg10.out 2).trans rfl; have z3 : w10.cell? ⟨g10, 3, none⟩ = some (.int .i64 0) := (blk_cell Bg10.out 3).trans rfl; have z4 : w10.cell? ⟨g10, 4, none⟩ = some (.int .i64 0) := (blk_cell Bg10.out 4).trans rfl; have z5 : w10.cell? ⟨g10, 5, none⟩ = some (.int .i64 0) := (blk_cell Bg10.out 5).trans rfl; have z6 : w10.cell? ⟨g10, 6, none⟩ = some (.int .i64 0) := (blk_cell Bg10.out 6).trans rfl; have y0 := blk_frozen Bg10.out 0; have y1 := blk_frozen Bg10.out 1; have y2 := blk_frozen Bg10.out 2; have y3 := blk_frozen Bg10.out 3; have y4 := blk_frozen Bg10.out 4; have y5 := blk_frozen Bg10.out 5; have y6 := blk_frozen Bg10.out 6))
          refine forget_wp (fun wc => Aside0 (wc.heap[g10]? = some (.cells #[.int .i64 v, .int .i64 ut, .int .i64 sd, .int .i64 le, .int .i64 ti, .int .i64 ty, .int .i64 ch] 23 (0, 0))) ∧ Aside0 (Below wA.heap.size wA wc)) ⟨⟨put7_at Bg10.out⟩, ⟨put7_below HBX.out GEg10.out⟩⟩ ?_
          clear Bg10 HBX HXL HXB HXC HD1 z0 y0 z1 y1 z2 y2 z3 y3 z4 y4 z5 y5 z6 y6
          rintro w11 ⟨Bg10, HBX⟩
          go_upto_region 15 with (first
            | (go_at_call 17; refine (decode_c A1 c1 43 Y2 _ 0 0 0 0 0 0 0 5 HL43.out HB43.out (Kd.C_below HC43.out HBX.out) hc43 HD2.out).mono ?_; rintro e w12 ⟨rfl, hb⟩; have n0_ := Aside0.mk (blk_below Bg10.out hb); have n1_ := Aside0.mk (below_step HBX.out hb); clear Bg10 HBX; have Bg10 := n0_; have HBX := n1_; clear n0_ n1_ hb)
            | ((with_reducible refine gate_dst (N := 12) rfl ?_); refine box_event ?hg (N := 12) ?hd (cs := #[.int .i64 0, .int .i64 0, .int .i64 0, .int .i64 0, .int .i64 0, .int .i64 0, .int .i64 0]) (t := 23) ?hr ?_; (case hd => rfl); (case hg => rfl); (case hr => first | (go_simp; done) | (go_simp; rfl)); intro g12 hg w13 hbox hb; have Bg12 := Aside0.mk hbox; have GEg12 := Aside0.mk (show wA.heap.size ≤ g12 by first | omega | (have h_ := below_size HBX.out; omega)); have N12 := Aside0.mk (show g10 ≠ g12 by have h_ := blk_lt Bg10.out; omega); clear hbox hg; have n0_ := Aside0.mk (blk_below Bg10.out hb); have n1_ := Aside0.mk (below_step HBX.out hb); clear Bg10 HBX; have Bg10 := n0_; have HBX := n1_; clear n0_ n1_ hb; have z0 : w13.cell? ⟨g12, 0, none⟩ = some (.int .i64 0) := (blk_cell Bg12.out 0).trans rfl; have z1 : w13.cell? ⟨g12, 1, none⟩ = some (.int .i64 0) := (blk_cell Bg12.out 1).trans rfl; have z2 : w13.cell? ⟨g12, 2, none⟩ = some (.int .i64 0) := (blk_cell Bg12.out 2).trans rfl; have z3 : w13.cell? ⟨g12, 3, none⟩ = some (.int .i64 0) := (blk_cell Bg12.out 3).trans rfl; have z4 : w13.cell? ⟨g12, 4, none⟩ = some (.int .i64 0) := (blk_cell Bg12.out 4).trans rfl; have z5 : w13.cell? ⟨g12, 5, none⟩ = some (.int .i64 0) := (blk_cell Bg12.out 5).trans rfl; have z6 : w13.cell? ⟨g12, 6, none⟩ = some (.int .i64 0) := (blk_cell Bg12.out 6).trans rfl; have y0 := blk_frozen Bg12.out 0; have y1 := blk_frozen Bg12.out 1; have y2 := blk_frozen Bg12.out 2; have y3 := blk_frozen Bg12.out 3; have y4 := blk_frozen Bg12.out 4; have y5 := blk_frozen Bg12.out 5; have y6 := blk_frozen Bg12.out 6))
          have NH := Aside0.mk (show gh ≠ g12 by have h_ := blk_lt Bgh.out; have h2_ := GEg12.out; omega)
          refine forget_wp (fun wc => Aside0 (wc.heap[gh]? = some (.cells #[.int .i64 v, .int .i64 ut, .int .i64 sd, .int .i64 le, .int .i64 ti, .int .i64 ty, .int .i64 ch] 23 (0, 0))) ∧ Aside0 (wc.heap[g10]? = some (.cells #[.int .i64 v, .int .i64 ut, .int .i64 sd, .int .i64 le, .int .i64 ti, .int .i64 ty, .int .i64 ch] 23 (0, 0))) ∧ Aside0 (Below w.heap.size w wc)) ⟨⟨put7_far (blk_below Bgh.out HBX.out) NH.out⟩, ⟨put7_far Bg10.out N12.out⟩, ⟨below_step HB.out (put7_below HBX.out GEg12.out)⟩⟩ ?_
          clear Bg10 Bg12 HBX HL43 HB43 HC43 HD2 Bgh HB z0 y0 z1 y1 z2 y2 z3 y3 z4 y4 z5 y5 z6 y6
          rintro w17 ⟨Bgh, Bg10, HB⟩
          have a0 : w17.cell? ⟨gh, 0, none⟩ = some (.int .i64 v) := (blk_cell Bgh.out 0).trans rfl; have a1 : w17.cell? ⟨gh, 1, none⟩ = some (.int .i64 ut) := (blk_cell Bgh.out 1).trans rfl; have a2 : w17.cell? ⟨gh, 2, none⟩ = some (.int .i64 sd) := (blk_cell Bgh.out 2).trans rfl; have a3 : w17.cell? ⟨gh, 3, none⟩ = some (.int .i64 le) := (blk_cell Bgh.out 3).trans rfl; have a4 : w17.cell? ⟨gh, 4, none⟩ = some (.int .i64 ti) := (blk_cell Bgh.out 4).trans rfl; have a5 : w17.cell? ⟨gh, 5, none⟩ = some (.int .i64 ty) := (blk_cell Bgh.out 5).trans rfl; have a6 : w17.cell? ⟨gh, 6, none⟩ = some (.int .i64 ch) := (blk_cell Bgh.out 6).trans rfl
          have b0 : w17.cell? ⟨g10, 0, none⟩ = some (.int .i64 v) := (blk_cell Bg10.out 0).trans rfl; have b1 : w17.cell? ⟨g10, 1, none⟩ = some (.int .i64 ut) := (blk_cell Bg10.out 1).trans rfl; have b2 : w17.cell? ⟨g10, 2, none⟩ = some (.int .i64 sd) := (blk_cell Bg10.out 2).trans rfl; have b3 : w17.cell? ⟨g10, 3, none⟩ = some (.int .i64 le) := (blk_cell Bg10.out 3).trans rfl; have b4 : w17.cell? ⟨g10, 4, none⟩ = some (.int .i64 ti) := (blk_cell Bg10.out 4).trans rfl; have b5 : w17.cell? ⟨g10, 5, none⟩ = some (.int .i64 ty) := (blk_cell Bg10.out 5).trans rfl; have b6 : w17.cell? ⟨g10, 6, none⟩ = some (.int .i64 ch) := (blk_cell Bg10.out 6).trans rfl
          have hE := fun d w => eqH_self d w v ut sd le ti ty ch
          go_wp2
          go_ret
          exact ⟨rfl, HB.out⟩
  · have EN := Aside0.mk (encode_no 10 v ut sd le ti ty ch hr)
    have AR := Aside0.mk (right_f v ut sd le ti ty ch)
    rw [decide_eq_false hr] at AR
    clear hr hr0
    go_enter Try.func5, Try.ntmps5
    go_wp2_with (first
                | ((with_reducible refine gate_dst (N := 2) rfl ?_); refine box_event ?hg (N := 2) ?hd (cs := #[.int .i64 v, .int .i64 ut, .int .i64 sd, .int .i64 le, .int .i64 ti, .int .i64 ty, .int .i64 ch]) (t := 23) ?hr ?_; (case hd => rfl); (case hg => rfl); (case hr => first | (go_simp; done) | (go_simp; rfl)); intro gh hg w1 hbox hb; have Bgh := Aside0.mk hbox; have GEgh := Aside0.mk (show w.heap.size ≤ gh by first | omega | (have h_ := below_size HB.out; omega)); clear hbox hg; have n0_ := Aside0.mk (below_step HB.out hb); clear HB; have HB := n0_; clear n0_ hb)
                | (go_at_call 9; refine (longcaselaw05_shown.calls true _ rfl).mono ?_; rintro e w2 ⟨rfl, hb⟩; have n0_ := Aside0.mk (blk_below Bgh.out hb); have n1_ := Aside0.mk (below_step HB.out hb); clear Bgh HB; have Bgh := n0_; have HB := n1_; clear n0_ n1_ hb; have a0 : w2.cell? ⟨gh, 0, none⟩ = some (.int .i64 v) := (blk_cell Bgh.out 0).trans rfl; have a1 : w2.cell? ⟨gh, 1, none⟩ = some (.int .i64 ut) := (blk_cell Bgh.out 1).trans rfl; have a2 : w2.cell? ⟨gh, 2, none⟩ = some (.int .i64 sd) := (blk_cell Bgh.out 2).trans rfl; have a3 : w2.cell? ⟨gh, 3, none⟩ = some (.int .i64 le) := (blk_cell Bgh.out 3).trans rfl; have a4 : w2.cell? ⟨gh, 4, none⟩ = some (.int .i64 ti) := (blk_cell Bgh.out 4).trans rfl; have a5 : w2.cell? ⟨gh, 5, none⟩ = some (.int .i64 ty) := (blk_cell Bgh.out 5).trans rfl; have a6 : w2.cell? ⟨gh, 6, none⟩ = some (.int .i64 ch) := (blk_cell Bgh.out 6).trans rfl)
                | (go_at_call 12; (with_reducible refine (header_Encode.calls 10 v ut sd le ti ty ch [] 1 _ EN.out).mono ?_); rintro e w5 ⟨v5, rfl, ho, hb⟩; have n0_ := Aside0.mk (blk_below Bgh.out hb); have n1_ := Aside0.mk (below_step HB.out hb); clear Bgh HB; have Bgh := n0_; have HB := n1_; clear n0_ n1_ hb; clear ho; have b0 : w5.cell? ⟨gh, 0, none⟩ = some (.int .i64 v) := (blk_cell Bgh.out 0).trans rfl; have b1 : w5.cell? ⟨gh, 1, none⟩ = some (.int .i64 ut) := (blk_cell Bgh.out 1).trans rfl; have b2 : w5.cell? ⟨gh, 2, none⟩ = some (.int .i64 sd) := (blk_cell Bgh.out 2).trans rfl; have b3 : w5.cell? ⟨gh, 3, none⟩ = some (.int .i64 le) := (blk_cell Bgh.out 3).trans rfl; have b4 : w5.cell? ⟨gh, 4, none⟩ = some (.int .i64 ti) := (blk_cell Bgh.out 4).trans rfl; have b5 : w5.cell? ⟨gh, 5, none⟩ = some (.int .i64 ty) := (blk_cell Bgh.out 5).trans rfl; have b6 : w5.cell? ⟨gh, 6, none⟩ = some (.int .i64 ch) := (blk_cell Bgh.out 6).trans rfl)
                | (go_at_call 13; (with_reducible refine (header_Right.calls v ut sd le ti ty ch false _ AR.out).mono ?_); rintro e w6 ⟨rfl, hb⟩; have n0_ := Aside0.mk (blk_below Bgh.out hb); have n1_ := Aside0.mk (below_step HB.out hb); clear Bgh HB; have Bgh := n0_; have HB := n1_; clear n0_ n1_ hb))
    go_ret
    exact ⟨rfl, HB.out⟩
theorem back_row (v ut sd le ti ty ch : Int) (a0 : Option Addr) (len0 cap0 : Nat) (z0 : List Int) (w : World) (_ : (Lit.int .i64 v).wf = true) (_ : (Lit.int .i64 ut).wf = true) (_ : (Lit.int .i64 sd).wf = true) (_ : (Lit.int .i64 le).wf = true) (_ : (Lit.int .i64 ti).wf = true) (_ : (Lit.int .i64 ty).wf = true) (_ : (Lit.int .i64 ch).wf = true)
    (w0 : (a0 = none ∧ len0 = 0 ∧ cap0 = 0 ∧ z0 = []) ∨ ∃ x, a0 = some x ∧ len0 ≤ cap0 ∧ cap0 ≤ maxLen ∧ z0.length = cap0 ∧ (∀ i, i < z0.length → w.cell? (x.add i) = some (.int .u8 (z0.getD i 0))) ∧ ∀ n ∈ z0, (Lit.int .u8 n).wf = true) (_y0 : len0 * 1 ≤ 140737488351232) :
    Calls Try.prog 5 #[.agg #[.int .i64 v, .int .i64 ut, .int .i64 sd, .int .i64 le, .int .i64 ti, .int .i64 ty, .int .i64 ch], .slice a0 len0 cap0] w fun e w' => e = .returned (.bool true) ∧ Below w.heap.size w w' := by
  obtain ⟨l0, rfl, hr0, hm0, hw0, hc0⟩ := ReadsInt.ofRowC w0
  exact back_walk v ut sd le ti ty ch a0 cap0 l0 w (Kd.C_of_reads (d := (0 : Int)) (h1 := fun _ => rfl) hr0) hc0 (bytes_of_wf hw0)
end Go.Proofs.Ytgaibighfmcgoaa.Hand
