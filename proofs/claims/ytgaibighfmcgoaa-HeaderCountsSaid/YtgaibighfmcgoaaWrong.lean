/- The walk of the statement HeaderWrong: it returns true. -/
import Derived.Test.YtgaibighfmcgoaaEqs
import Derived.Test.YtgaibighfmcgoaaPlain
import Derived.Test.YtgaibighfmcgoaaBodies
namespace Go.Proofs.Ytgaibighfmcgoaa.Hand
open Go.RowKit Go.Proofs.YtgaibighfmcgoaaW.PrintWords Go.Proofs.YtgaibighfmcgoaaW.PrintLast Go.Proofs.YtgaibighfmcgoaaW.PrintMore Go.Proofs.Ytgaibighfmcgoaa.PHdrA
set_option linter.unusedVariables false
set_option linter.unusedSimpArgs false
theorem rdOf_rd (l : List Int) (i : Nat) : rdOf 0 l (i : Int) = rd l (i : Int) := by
  rw [rd_at]
  simp [rdOf]
def wrongCases (by_ ver ti fE gE t1 t2 t3 t4 t5 t6 t7 : Int) : Prop :=
  (by_ = 0 ∧ fE = 0 ∨ by_ ≠ 0 ∧ fE = 4) ∧ ((ver = 0 ∨ ver ≠ 0 ∧ 50 ≤ ver ∧ ver ≤ 52) ∧ gE = 0 ∧ t5 = ti ∨ (ver ≠ 0 ∧ ver < 50 ∨ ver ≠ 0 ∧ 50 ≤ ver ∧ 52 < ver) ∧ gE = 4 ∧ t1 = 0 ∧ t2 = 0 ∧ t3 = 0 ∧ t4 = 0 ∧ t5 = 0 ∧ t6 = 0 ∧ t7 = 0)
theorem set_bytes {l : List Int} (hb : Bytes l) (i : Nat) (x : Int) (hx : 0 ≤ x ∧ x < 256) : Bytes (l.set i x) := fun y hy => by
  rcases List.mem_or_eq_of_mem_set hy with h | h
  · exact hb y h
  · rw [h]; exact hx
theorem wrong_pure (v ut sd le ti ty ch by_ ver : Int) (L : List Int) (q : Nat) (hr : rightP v ut sd le ti ty ch) (hL : L = hbytes v ut sd le ti ty ch) (q4 : q < 4) (hy : 0 ≤ by_ ∧ by_ < 256) (hv : 0 ≤ ver ∧ ver < 256) :
    ∃ s1 s2 s3 s4 s5 s6 s7 fE t1 t2 t3 t4 t5 t6 t7 gE, dec (L.set q (Go.bits .xor .u8 (rdOf 0 L (q : Int)) by_)) = (s1, s2, s3, s4, s5, s6, s7, fE) ∧ dec (L.set 4 ver) = (t1, t2, t3, t4, t5, t6, t7, gE) ∧ wrongCases by_ ver ti fE gE t1 t2 t3 t4 t5 t6 t7 := by
  have hB : Bytes L := by rw [hL]; exact hb_bytes _ _ _ _ _ _ _
  have h44 : L.length = 44 := by rw [hL]; exact hbytes_len _ _ _ _ _ _ _
  have ht4 : L.take 4 = [84, 90, 105, 102] := by rw [hL]; exact hb_take4 _ _ _ _ _ _ _
  have hd : L.drop 20 = six4 ut sd le ti ty ch := by rw [hL]; exact hb_drop _ _ _ _ _ _ _
  have hr4 : rd L 4 = if v > 1 then (48 + v) % 256 else 0 := by rw [hL]; exact hb_rd4 _ _ _ _ _ _ _
  have h6 : (L.drop 20).take 24 = six4 ut sd le ti ty ch := by rw [hd, List.take_of_length_le (by rw [six4_len]; omega)]
  have hq : q < L.length := by omega
  have hx := rd_bd L hB q hq
  have hxv := xor_val (rd L (q : Int)) by_ hx hy
  rw [rdOf_rd]
  have D1 : by_ = 0 ∧ dec (L.set q (Go.bits .xor .u8 (rd L (q : Int)) by_)) = (v, ut, sd, le, ti, ty, ch, 0) ∨ by_ ≠ 0 ∧ dec (L.set q (Go.bits .xor .u8 (rd L (q : Int)) by_)) = (0, 0, 0, 0, 0, 0, 0, 4) := by
    by_cases h0 : by_ = 0
    · refine .inl ⟨h0, ?_⟩
      have e : L.set q (Go.bits .xor .u8 (rd L (q : Int)) by_) = L := by
        rw [hxv.2.2 h0, rd_at, List.getD_eq_getElem?_getD, List.getElem?_eq_getElem hq]
        exact List.set_getElem_self hq
      rw [e]
      exact dec_same L v ut sd le ti ty ch hr (by omega) ht4 hr4 h6
    · refine .inr ⟨h0, ?_⟩
      refine dec_bad _ (set_bytes hB q _ hxv.1) (by rw [List.length_set]; omega) (fun h => ?_)
      have hne : Go.bits .xor .u8 (rd L (q : Int)) by_ ≠ rd L (q : Int) := fun h' => h0 (hxv.2.1 h')
      have h1 := congrArg (fun l => l.getD q 0) (h.trans ht4.symm)
      simp only [List.getD_eq_getElem?_getD] at h1
      rw [List.getElem?_take_of_lt q4, List.getElem?_take_of_lt q4, List.getElem?_set_self hq] at h1
      apply hne
      rw [rd_at, List.getD_eq_getElem?_getD]
      exact h1
  have D2 : dec (L.set 4 ver) = if ver = 0 ∨ 50 ≤ ver ∧ ver ≤ 52 then (verOf ver, ut, sd, le, ti, ty, ch, 0) else (0, 0, 0, 0, 0, 0, 0, 4) := by
    refine dec_of (L.set 4 ver) v ut sd le ti ty ch ver hr (by rw [List.length_set]; omega) ?_ ?_ ?_
    · rw [List.take_set_of_le (by omega), ht4]
    · show rd (L.set 4 ver) ((4 : Nat) : Int) = ver
      rw [rd_at, List.getD_eq_getElem?_getD, List.getElem?_set_self (by omega)]
      rfl
    · rw [List.drop_set_of_lt (by omega), h6]
  unfold wrongCases
  rcases D1 with ⟨h0, D1⟩ | ⟨h0, D1⟩ <;> by_cases hm : ver = 0 ∨ 50 ≤ ver ∧ ver ≤ 52
  · rw [if_pos hm] at D2
    exact ⟨_, _, _, _, _, _, _, _, _, _, _, _, _, _, _, _, D1, D2, .inl ⟨h0, rfl⟩, .inl ⟨by omega, rfl, rfl⟩⟩
  · rw [if_neg hm] at D2
    exact ⟨_, _, _, _, _, _, _, _, _, _, _, _, _, _, _, _, D1, D2, .inl ⟨h0, rfl⟩, .inr ⟨by omega, rfl, rfl, rfl, rfl, rfl, rfl, rfl, rfl⟩⟩
  · rw [if_pos hm] at D2
    exact ⟨_, _, _, _, _, _, _, _, _, _, _, _, _, _, _, _, D1, D2, .inr ⟨h0, rfl⟩, .inl ⟨by omega, rfl, rfl⟩⟩
  · rw [if_neg hm] at D2
    exact ⟨_, _, _, _, _, _, _, _, _, _, _, _, _, _, _, _, D1, D2, .inr ⟨h0, rfl⟩, .inr ⟨by omega, rfl, rfl, rfl, rfl, rfl, rfl, rfl, rfl⟩⟩
set_option maxHeartbeats 2000000 in
set_option maxRecDepth 100000 in
theorem wrong_walk (v ut sd le ti ty ch at_ by_ ver : Int) (w : World) (hy : 0 ≤ by_ ∧ by_ < 256) (hv : 0 ≤ ver ∧ ver < 256) :
    Calls Try.prog 6 #[.agg #[.int .i64 v, .int .i64 ut, .int .i64 sd, .int .i64 le, .int .i64 ti, .int .i64 ty, .int .i64 ch], .int .i64 at_, .int .u8 by_, .int .u8 ver] w fun e w' => e = .returned (.bool true) ∧ Below w.heap.size w w' := by
  have hu23 := Try.underlying23
  have HB := Aside0.mk (Below.refl w.heap.size w)
  by_cases hr : rightP v ut sd le ti ty ch
  · have EN := Aside0.mk (encode_f 10 (by omega) v ut sd le ti ty ch hr)
    obtain ⟨L, hL⟩ : ∃ x, x = hbytes v ut sd le ti ty ch := ⟨_, rfl⟩
    have L44 := Aside0.mk (show L.length = 44 by rw [hL]; exact hbytes_len _ _ _ _ _ _ _)
    rw [← hL] at EN
    obtain ⟨q, hq, q4⟩ : ∃ q : Nat, Go.bits .and .i64 at_ 3 = (q : Int) ∧ q < 4 := ⟨(at_ % 4).toNat, by rw [and3]; omega, by omega⟩
    obtain ⟨s1, s2, s3, s4, s5, s6, s7, fE, t1, t2, t3, t4, t5, t6, t7, gE, hD1, hD2, hCs⟩ := wrong_pure v ut sd le ti ty ch by_ ver L q hr hL q4 hy hv
    have HL := Aside0.mk hL
    have HD1 := Aside0.mk hD1
    have HD2 := Aside0.mk hD2
    have HCs := Aside0.mk hCs
    have HX1 := Aside0.mk (show 0 ≤ rdOf 0 L (q : Int) ∧ rdOf 0 L (q : Int) < 256 by rw [rdOf_rd]; exact rd_bd L (by rw [hL]; exact hb_bytes _ _ _ _ _ _ _) q (by rw [hL, hbytes_len]; omega))
    have HY := Aside0.mk hy
    have HV := Aside0.mk hv
    clear hD1 hD2 hCs
    clear hL hr hy hv
    go_enter Try.func6, Try.ntmps6
    go_upto_region 3 with (first
                | ((with_reducible refine gate_dst (N := 4) rfl ?_); refine box_event ?hg (N := 4) ?hd (cs := #[.int .i64 v, .int .i64 ut, .int .i64 sd, .int .i64 le, .int .i64 ti, .int .i64 ty, .int .i64 ch]) (t := 23) ?hr ?_; (case hd => rfl); (case hg => rfl); (case hr => first | (go_simp; done) | (go_simp; rfl)); intro gh hg w1 hbox hb; have Bgh := Aside0.mk hbox; have GEgh := Aside0.mk (show w.heap.size ≤ gh by first | omega | (have h_ := below_size HB.out; omega)); clear hbox hg; have n0_ := Aside0.mk (below_step HB.out hb); clear HB; have HB := n0_; clear n0_ hb)
                | (go_at_call 9; refine (longcaselaw05_shown.calls true _ rfl).mono ?_; rintro e w2 ⟨rfl, hb⟩; have n0_ := Aside0.mk (blk_below Bgh.out hb); have n1_ := Aside0.mk (below_step HB.out hb); clear Bgh HB; have Bgh := n0_; have HB := n1_; clear n0_ n1_ hb; have a0 : w2.cell? ⟨gh, 0, none⟩ = some (.int .i64 v) := (blk_cell Bgh.out 0).trans rfl; have a1 : w2.cell? ⟨gh, 1, none⟩ = some (.int .i64 ut) := (blk_cell Bgh.out 1).trans rfl; have a2 : w2.cell? ⟨gh, 2, none⟩ = some (.int .i64 sd) := (blk_cell Bgh.out 2).trans rfl; have a3 : w2.cell? ⟨gh, 3, none⟩ = some (.int .i64 le) := (blk_cell Bgh.out 3).trans rfl; have a4 : w2.cell? ⟨gh, 4, none⟩ = some (.int .i64 ti) := (blk_cell Bgh.out 4).trans rfl; have a5 : w2.cell? ⟨gh, 5, none⟩ = some (.int .i64 ty) := (blk_cell Bgh.out 5).trans rfl; have a6 : w2.cell? ⟨gh, 6, none⟩ = some (.int .i64 ch) := (blk_cell Bgh.out 6).trans rfl)
                | (go_at_call 12; (with_reducible refine (header_Encode.calls 10 v ut sd le ti ty ch L 0 _ EN.out).mono ?_); rintro e w5 ⟨v5, rfl, ho, hb⟩; have n0_ := Aside0.mk (blk_below Bgh.out hb); have n1_ := Aside0.mk (below_step HB.out hb); clear Bgh HB; have Bgh := n0_; have HB := n1_; clear n0_ n1_ hb; have HO := Aside0.mk ho; clear ho))
    obtain ⟨A1, c1, rfl⟩ : ∃ A c, v5 = .slice A 44 c := by
      obtain ⟨A, c, e⟩ := Kd.R_slice HO.out
      rw [L44.out] at e
      exact ⟨A, c, e⟩
    have HC1 := Aside0.mk (show Kd.C (Kd.int .u8) w5 A1 44 L from by
      have h_ := (Kd.R_reads' HO.out).2.2
      first | exact h_ | rwa [L44.out] at h_)
    have HCC := (show 44 ≤ c1 from by
      have h_ := (Kd.R_reads' HO.out).2.1
      first | exact h_ | rwa [L44.out] at h_)
    clear HO a0 a1 a2 a3 a4 a5 a6
    go_upto_region 7 with (fail)
    refine forget_wp (fun wc => Aside0 (wc.heap[gh]? = some (.cells #[.int .i64 v, .int .i64 ut, .int .i64 sd, .int .i64 le, .int .i64 ti, .int .i64 ty, .int .i64 ch] 23 (0, 0))) ∧ Aside0 (Kd.C (Kd.int .u8) wc A1 44 L) ∧ Aside0 (Below w.heap.size w wc)) ⟨Bgh, HC1, HB⟩ ?_
    clear Bgh HC1 HB
    rintro wA ⟨Bgh, HC1, HB⟩
    have HBX := Aside0.mk (Below.refl wA.heap.size wA)
    go_upto_region 8 with (first
        | ((with_reducible refine gate_dst (N := 31) rfl ?_); refine Kd.R_lit (Kd.int .u8) wA.heap.size 5 ?hg (N := 31) ?hd (xs := ([] : List Int)) (inner := []) (ok := fun _ => True) (okp := fun _ => True) ?hr ?hp (fun _ hk => hk) trivial HBX.out (below_size HBX.out) (by simp) ?_; (case hd => rfl); (case hg => rfl); (case hr => first | (go_simp; done) | (go_simp; rfl)); (case hp => exact (Reps.none _ _)); intro v31 w6 ho hb hg_ hnew_; clear hg_ hnew_ HBX; have HX := Aside0.mk ho; have HBX := Aside0.mk hb; clear ho hb)
        | ((with_reducible refine gate_builtin (b := .append) (xs := #[.tmp 31, .tmp 32]) rfl ?_); at_builtin; refine Kd.R_append_row (Value.int .u8) 0 (w0 := wA) wA.heap.size ?y1 (.tmp 31) (.tmp 32) 28 5 (.int .u8 0) 1 ?y2 Try.underlying28 info5 ?y3 ?y4 v31 [] L A1 44 c1 (fun _ => True) ?y5 ?y6 ?y7 HX.out ?y8 HBX.out (below_size HBX.out) ?y9 ?_; (case y1 => rfl); (case y2 => rfl); (case y3 => rfl); (case y4 => decide); (case y5 => rfl); (case y6 => rfl); (case y7 => exact fun _ _ => trivial); (case y8 => exact Kd.C_below HC1.out HBX.out); (case y9 => (first | decide | (simp; omega))); intro v33 w7 ho hb hg hat; clear HX HBX hg hat; have HX := Aside0.mk ho; have HBX := Aside0.mk hb; clear ho hb))
    rw [List.nil_append] at HX
    obtain ⟨gx, cx, rfl⟩ : ∃ g c, v33 = .slice (some ⟨g, 0, none⟩) 44 c := by
      obtain ⟨g, c, e⟩ := Joins.ownsRow_form (Kd.own_of_R HX.out) (by rw [L44.out]; decide)
      rw [L44.out] at e
      exact ⟨g, c, e⟩
    have hcl := Kd.R_cell 0 (show Kd.R (Kd.int .u8) 5 w7 wA.heap.size (fun _ => True) (.slice (some ⟨gx, 0, none⟩) L.length cx) L by rw [L44.out]; exact HX.out) (q : Int) (by omega) (by rw [L44.out]; omega)
    obtain ⟨X0, hX0⟩ : ∃ X, X = rdOf 0 L (q : Int) := ⟨_, rfl⟩
    rw [← hX0] at HD1 hcl HX1
    obtain ⟨hc1, hc2⟩ := hcl
    rw [Int.toNat_natCast] at hc1 hc2
    clear hX0
    have q44 : q < 44 := by omega
    go_upto_region 9 with (fail)
    refine forget_wp (fun wc => Aside0 (Kd.R (Kd.int .u8) 5 wc wA.heap.size (fun _ => True) (.slice (some ⟨gx, 0, none⟩) 44 cx) (L.set q (Go.bits .xor .u8 X0 by_))) ∧ Aside0 (Below wA.heap.size wA wc)) ⟨⟨Kd.R_putn HX.out (q : Int) _⟩, ⟨below_set HBX.out (Kd.R_base HX.out _ rfl)⟩⟩ ?_
    clear HX HBX hc1 hc2
    rintro w8 ⟨HX, HBX⟩
    have HYB := Aside0.mk (show Bytes (L.set q (Go.bits .xor .u8 X0 by_)) from set_bytes (by rw [HL.out]; exact hb_bytes _ _ _ _ _ _ _) q _ (xor_val _ _ HX1.out HY.out).1)
    have HYL := Aside0.mk (show (L.set q (Go.bits .xor .u8 X0 by_)).length = 44 by rw [List.length_set]; exact L44.out)
    have hcx : 44 ≤ cx := (Kd.R_reads' HX.out).2.1
    have HYC := Aside0.mk (show Kd.C (Kd.int .u8) w8 (some ⟨gx, 0, none⟩) 44 (L.set q (Go.bits .xor .u8 X0 by_)) from by
      have h_ := (Kd.R_reads' HX.out).2.2
      rwa [HYL.out] at h_)
    generalize L.set q (Go.bits .xor .u8 X0 by_) = Y at *
    clear HX
    go_upto_region 10 with (first
      | (go_at_call 17; refine (decode_c (some ⟨gx, 0, none⟩) cx 44 Y _ s1 s2 s3 s4 s5 s6 s7 fE HYL.out HYB.out HYC.out hcx HD1.out).mono ?_; rintro e w9 ⟨rfl, hb⟩; have n0_ := Aside0.mk (below_step HBX.out hb); clear HBX; have HBX := n0_; clear n0_ hb)
      | ((with_reducible refine gate_dst (N := 13) rfl ?_); refine box_event ?hg (N := 13) ?hd (cs := #[.int .i64 0, .int .i64 0, .int .i64 0, .int .i64 0, .int .i64 0, .int .i64 0, .int .i64 0]) (t := 23) ?hr ?_; (case hd => rfl); (case hg => rfl); (case hr => first | (go_simp; done) | (go_simp; rfl)); intro g13 hg w10 hbox hb; have Bg13 := Aside0.mk hbox; have GEg13 := Aside0.mk (show wA.heap.size ≤ g13 by first | omega | (have h_ := below_size HBX.out; omega)); clear hbox hg; have n0_ := Aside0.mk (below_step HBX.out hb); clear HBX; have HBX := n0_; clear n0_ hb; have z0 : w10.cell? ⟨g13, 0, none⟩ = some (.int .i64 0) := (blk_cell Bg13.out 0).trans rfl; have z1 : w10.cell? ⟨g13, 1, none⟩ = some (.int .i64 0) := (blk_cell Bg13.out 1).trans rfl; have z2 : w10.cell? ⟨g13, 2, none⟩ = some (.int .i64 0) := (blk_cell Bg13.out 2).trans rfl; have z3 : w10.cell? ⟨g13, 3, none⟩ = some (.int .i64 0) := (blk_cell Bg13.out 3).trans rfl; have z4 : w10.cell? ⟨g13, 4, none⟩ = some (.int .i64 0) := (blk_cell Bg13.out 4).trans rfl; have z5 : w10.cell? ⟨g13, 5, none⟩ = some (.int .i64 0) := (blk_cell Bg13.out 5).trans rfl; have z6 : w10.cell? ⟨g13, 6, none⟩ = some (.int .i64 0) := (blk_cell Bg13.out 6).trans rfl; have y0 := blk_frozen Bg13.out 0; have y1 := blk_frozen Bg13.out 1; have y2 := blk_frozen Bg13.out 2; have y3 := blk_frozen Bg13.out 3; have y4 := blk_frozen Bg13.out 4; have y5 := blk_frozen Bg13.out 5; have y6 := blk_frozen Bg13.out 6))
    refine forget_wp (fun wc => Aside0 (Below wA.heap.size wA wc)) ⟨put7_below HBX.out GEg13.out⟩ ?_
    clear Bg13 HBX HYL HYB HYC HD1 z0 y0 z1 y1 z2 y2 z3 y3 z4 y4 z5 y5 z6 y6
    rintro w11 HBX
    go_upto_region 11 with (first
        | ((with_reducible refine gate_dst (N := 50) rfl ?_); refine Kd.R_lit (Kd.int .u8) wA.heap.size 5 ?hg (N := 50) ?hd (xs := ([] : List Int)) (inner := []) (ok := fun _ => True) (okp := fun _ => True) ?hr ?hp (fun _ hk => hk) trivial HBX.out (below_size HBX.out) (by simp) ?_; (case hd => rfl); (case hg => rfl); (case hr => first | (go_simp; done) | (go_simp; rfl)); (case hp => exact (Reps.none _ _)); intro v50 w12 ho hb hg_ hnew_; clear hg_ hnew_ HBX; have HX := Aside0.mk ho; have HBX := Aside0.mk hb; clear ho hb)
        | ((with_reducible refine gate_builtin (b := .append) (xs := #[.tmp 50, .tmp 51]) rfl ?_); at_builtin; refine Kd.R_append_row (Value.int .u8) 0 (w0 := wA) wA.heap.size ?y1 (.tmp 50) (.tmp 51) 28 5 (.int .u8 0) 1 ?y2 Try.underlying28 info5 ?y3 ?y4 v50 [] L A1 44 c1 (fun _ => True) ?y5 ?y6 ?y7 HX.out ?y8 HBX.out (below_size HBX.out) ?y9 ?_; (case y1 => rfl); (case y2 => rfl); (case y3 => rfl); (case y4 => decide); (case y5 => rfl); (case y6 => rfl); (case y7 => exact fun _ _ => trivial); (case y8 => exact Kd.C_below HC1.out HBX.out); (case y9 => (first | decide | (simp; omega))); intro v52 w13 ho hb hg hat; clear HX HBX hg hat; have HX := Aside0.mk ho; have HBX := Aside0.mk hb; clear ho hb))
    rw [List.nil_append] at HX
    obtain ⟨gy, cy, rfl⟩ : ∃ g c, v52 = .slice (some ⟨g, 0, none⟩) 44 c := by
      obtain ⟨g, c, e⟩ := Joins.ownsRow_form (Kd.own_of_R HX.out) (by rw [L44.out]; decide)
      rw [L44.out] at e
      exact ⟨g, c, e⟩
    have hcl := Kd.R_cell 0 (show Kd.R (Kd.int .u8) 5 w13 wA.heap.size (fun _ => True) (.slice (some ⟨gy, 0, none⟩) L.length cy) L by rw [L44.out]; exact HX.out) (4 : Int) (by omega) (by rw [L44.out]; omega)
    obtain ⟨hc1, hc2⟩ := hcl
    rw [show (4 : Int).toNat = 4 from rfl] at hc1 hc2
    go_upto_region 12 with (fail)
    refine forget_wp (fun wc => Aside0 (Kd.R (Kd.int .u8) 5 wc wA.heap.size (fun _ => True) (.slice (some ⟨gy, 0, none⟩) 44 cy) (L.set 4 ver)) ∧ Aside0 (Below wA.heap.size wA wc)) ⟨⟨Kd.R_putn HX.out (4 : Int) _⟩, ⟨below_set HBX.out (Kd.R_base HX.out _ rfl)⟩⟩ ?_
    clear HX HBX hc1 hc2
    rintro w14 ⟨HX, HBX⟩
    have HYB := Aside0.mk (show Bytes (L.set 4 ver) from set_bytes (by rw [HL.out]; exact hb_bytes _ _ _ _ _ _ _) 4 _ HV.out)
    have HYL := Aside0.mk (show (L.set 4 ver).length = 44 by rw [List.length_set]; exact L44.out)
    have hcy : 44 ≤ cy := (Kd.R_reads' HX.out).2.1
    have HYC := Aside0.mk (show Kd.C (Kd.int .u8) w14 (some ⟨gy, 0, none⟩) 44 (L.set 4 ver) from by
      have h_ := (Kd.R_reads' HX.out).2.2
      rwa [HYL.out] at h_)
    generalize L.set 4 ver = Y at *
    clear HX
    go_upto_region 13 with (first
      | (go_at_call 17; refine (decode_c (some ⟨gy, 0, none⟩) cy 44 Y _ t1 t2 t3 t4 t5 t6 t7 gE HYL.out HYB.out HYC.out hcy HD2.out).mono ?_; rintro e w15 ⟨rfl, hb⟩; have n0_ := Aside0.mk (below_step HBX.out hb); clear HBX; have HBX := n0_; clear n0_ hb)
      | ((with_reducible refine gate_dst (N := 16) rfl ?_); refine box_event ?hg (N := 16) ?hd (cs := #[.int .i64 0, .int .i64 0, .int .i64 0, .int .i64 0, .int .i64 0, .int .i64 0, .int .i64 0]) (t := 23) ?hr ?_; (case hd => rfl); (case hg => rfl); (case hr => first | (go_simp; done) | (go_simp; rfl)); intro g16 hg w16 hbox hb; have Bg16 := Aside0.mk hbox; have GEg16 := Aside0.mk (show wA.heap.size ≤ g16 by first | omega | (have h_ := below_size HBX.out; omega)); clear hbox hg; have n0_ := Aside0.mk (below_step HBX.out hb); clear HBX; have HBX := n0_; clear n0_ hb; have z0 : w16.cell? ⟨g16, 0, none⟩ = some (.int .i64 0) := (blk_cell Bg16.out 0).trans rfl; have z1 : w16.cell? ⟨g16, 1, none⟩ = some (.int .i64 0) := (blk_cell Bg16.out 1).trans rfl; have z2 : w16.cell? ⟨g16, 2, none⟩ = some (.int .i64 0) := (blk_cell Bg16.out 2).trans rfl; have z3 : w16.cell? ⟨g16, 3, none⟩ = some (.int .i64 0) := (blk_cell Bg16.out 3).trans rfl; have z4 : w16.cell? ⟨g16, 4, none⟩ = some (.int .i64 0) := (blk_cell Bg16.out 4).trans rfl; have z5 : w16.cell? ⟨g16, 5, none⟩ = some (.int .i64 0) := (blk_cell Bg16.out 5).trans rfl; have z6 : w16.cell? ⟨g16, 6, none⟩ = some (.int .i64 0) := (blk_cell Bg16.out 6).trans rfl; have y0 := blk_frozen Bg16.out 0; have y1 := blk_frozen Bg16.out 1; have y2 := blk_frozen Bg16.out 2; have y3 := blk_frozen Bg16.out 3; have y4 := blk_frozen Bg16.out 4; have y5 := blk_frozen Bg16.out 5; have y6 := blk_frozen Bg16.out 6))
    have NH := Aside0.mk (show gh ≠ g16 by have h_ := blk_lt Bgh.out; have h2_ := GEg16.out; omega)
    refine forget_wp (fun wc => Aside0 (wc.heap[gh]? = some (.cells #[.int .i64 v, .int .i64 ut, .int .i64 sd, .int .i64 le, .int .i64 ti, .int .i64 ty, .int .i64 ch] 23 (0, 0))) ∧ Aside0 (wc.heap[g16]? = some (.cells #[.int .i64 t1, .int .i64 t2, .int .i64 t3, .int .i64 t4, .int .i64 t5, .int .i64 t6, .int .i64 t7] 23 (0, 0))) ∧ Aside0 (Below w.heap.size w wc)) ⟨⟨put7_far (blk_below Bgh.out HBX.out) NH.out⟩, ⟨put7_at Bg16.out⟩, ⟨below_step HB.out (put7_below HBX.out GEg16.out)⟩⟩ ?_
    clear Bg16 HBX HYL HYB HYC HD2 Bgh HB HX1 HY HC1 z0 y0 z1 y1 z2 y2 z3 y3 z4 y4 z5 y5 z6 y6
    rintro w17 ⟨Bgh, Bg16, HB⟩
    have a0 : w17.cell? ⟨gh, 0, none⟩ = some (.int .i64 v) := (blk_cell Bgh.out 0).trans rfl; have a1 : w17.cell? ⟨gh, 1, none⟩ = some (.int .i64 ut) := (blk_cell Bgh.out 1).trans rfl; have a2 : w17.cell? ⟨gh, 2, none⟩ = some (.int .i64 sd) := (blk_cell Bgh.out 2).trans rfl; have a3 : w17.cell? ⟨gh, 3, none⟩ = some (.int .i64 le) := (blk_cell Bgh.out 3).trans rfl; have a4 : w17.cell? ⟨gh, 4, none⟩ = some (.int .i64 ti) := (blk_cell Bgh.out 4).trans rfl; have a5 : w17.cell? ⟨gh, 5, none⟩ = some (.int .i64 ty) := (blk_cell Bgh.out 5).trans rfl; have a6 : w17.cell? ⟨gh, 6, none⟩ = some (.int .i64 ch) := (blk_cell Bgh.out 6).trans rfl
    obtain ⟨hcF, hcG⟩ := HCs.out
    clear HCs
    have hE := fun d w => eqH_self d w 0 0 0 0 0 0 0
    rcases hcF with ⟨rfl, rfl⟩ | ⟨hcF, rfl⟩
    · rcases hcG with ⟨hcG, rfl, rfl⟩ | ⟨hcG, rfl, rfl, rfl, rfl, rfl, rfl, rfl, rfl⟩
      · have b0 : w17.cell? ⟨g16, 0, none⟩ = some (.int .i64 t1) := (blk_cell Bg16.out 0).trans rfl; have b1 : w17.cell? ⟨g16, 1, none⟩ = some (.int .i64 t2) := (blk_cell Bg16.out 1).trans rfl; have b2 : w17.cell? ⟨g16, 2, none⟩ = some (.int .i64 t3) := (blk_cell Bg16.out 2).trans rfl; have b3 : w17.cell? ⟨g16, 3, none⟩ = some (.int .i64 t4) := (blk_cell Bg16.out 3).trans rfl; have b4 : w17.cell? ⟨g16, 4, none⟩ = some (.int .i64 t5) := (blk_cell Bg16.out 4).trans rfl; have b5 : w17.cell? ⟨g16, 5, none⟩ = some (.int .i64 t6) := (blk_cell Bg16.out 5).trans rfl; have b6 : w17.cell? ⟨g16, 6, none⟩ = some (.int .i64 t7) := (blk_cell Bg16.out 6).trans rfl
        rcases hcG with rfl | ⟨g1, g2, g3⟩
        · go_wp2; go_ret; exact ⟨rfl, HB.out⟩
        · have G1 : (ver == 0) = false := beq_eq_false_iff_ne.mpr g1
          clear g1
          go_wp2; go_ret; exact ⟨rfl, HB.out⟩
      · have b0 : w17.cell? ⟨g16, 0, none⟩ = some (.int .i64 0) := (blk_cell Bg16.out 0).trans rfl; have b1 : w17.cell? ⟨g16, 1, none⟩ = some (.int .i64 0) := (blk_cell Bg16.out 1).trans rfl; have b2 : w17.cell? ⟨g16, 2, none⟩ = some (.int .i64 0) := (blk_cell Bg16.out 2).trans rfl; have b3 : w17.cell? ⟨g16, 3, none⟩ = some (.int .i64 0) := (blk_cell Bg16.out 3).trans rfl; have b4 : w17.cell? ⟨g16, 4, none⟩ = some (.int .i64 0) := (blk_cell Bg16.out 4).trans rfl; have b5 : w17.cell? ⟨g16, 5, none⟩ = some (.int .i64 0) := (blk_cell Bg16.out 5).trans rfl; have b6 : w17.cell? ⟨g16, 6, none⟩ = some (.int .i64 0) := (blk_cell Bg16.out 6).trans rfl
        rcases hcG with ⟨g1, g2⟩ | ⟨g1, g2, g3⟩
        · have G1 : (ver == 0) = false := beq_eq_false_iff_ne.mpr g1
          clear g1
          go_wp2; go_ret; exact ⟨rfl, HB.out⟩
        · have G1 : (ver == 0) = false := beq_eq_false_iff_ne.mpr g1
          clear g1
          go_wp2; go_ret; exact ⟨rfl, HB.out⟩
    · have F1 : (by_ == 0) = false := beq_eq_false_iff_ne.mpr hcF
      clear hcF
      rcases hcG with ⟨hcG, rfl, rfl⟩ | ⟨hcG, rfl, rfl, rfl, rfl, rfl, rfl, rfl, rfl⟩
      · have b0 : w17.cell? ⟨g16, 0, none⟩ = some (.int .i64 t1) := (blk_cell Bg16.out 0).trans rfl; have b1 : w17.cell? ⟨g16, 1, none⟩ = some (.int .i64 t2) := (blk_cell Bg16.out 1).trans rfl; have b2 : w17.cell? ⟨g16, 2, none⟩ = some (.int .i64 t3) := (blk_cell Bg16.out 2).trans rfl; have b3 : w17.cell? ⟨g16, 3, none⟩ = some (.int .i64 t4) := (blk_cell Bg16.out 3).trans rfl; have b4 : w17.cell? ⟨g16, 4, none⟩ = some (.int .i64 t5) := (blk_cell Bg16.out 4).trans rfl; have b5 : w17.cell? ⟨g16, 5, none⟩ = some (.int .i64 t6) := (blk_cell Bg16.out 5).trans rfl; have b6 : w17.cell? ⟨g16, 6, none⟩ = some (.int .i64 t7) := (blk_cell Bg16.out 6).trans rfl
        rcases hcG with rfl | ⟨g1, g2, g3⟩
        · go_wp2; go_ret; exact ⟨rfl, HB.out⟩
        · have G1 : (ver == 0) = false := beq_eq_false_iff_ne.mpr g1
          clear g1
          go_wp2; go_ret; exact ⟨rfl, HB.out⟩
      · have b0 : w17.cell? ⟨g16, 0, none⟩ = some (.int .i64 0) := (blk_cell Bg16.out 0).trans rfl; have b1 : w17.cell? ⟨g16, 1, none⟩ = some (.int .i64 0) := (blk_cell Bg16.out 1).trans rfl; have b2 : w17.cell? ⟨g16, 2, none⟩ = some (.int .i64 0) := (blk_cell Bg16.out 2).trans rfl; have b3 : w17.cell? ⟨g16, 3, none⟩ = some (.int .i64 0) := (blk_cell Bg16.out 3).trans rfl; have b4 : w17.cell? ⟨g16, 4, none⟩ = some (.int .i64 0) := (blk_cell Bg16.out 4).trans rfl; have b5 : w17.cell? ⟨g16, 5, none⟩ = some (.int .i64 0) := (blk_cell Bg16.out 5).trans rfl; have b6 : w17.cell? ⟨g16, 6, none⟩ = some (.int .i64 0) := (blk_cell Bg16.out 6).trans rfl
        rcases hcG with ⟨g1, g2⟩ | ⟨g1, g2, g3⟩
        · have G1 : (ver == 0) = false := beq_eq_false_iff_ne.mpr g1
          clear g1
          go_wp2; go_ret; exact ⟨rfl, HB.out⟩
        · have G1 : (ver == 0) = false := beq_eq_false_iff_ne.mpr g1
          clear g1
          go_wp2; go_ret; exact ⟨rfl, HB.out⟩
  · have EN := Aside0.mk (encode_no 10 v ut sd le ti ty ch hr)
    clear hr
    go_enter Try.func6, Try.ntmps6
    go_wp2_with (first
                | ((with_reducible refine gate_dst (N := 4) rfl ?_); refine box_event ?hg (N := 4) ?hd (cs := #[.int .i64 v, .int .i64 ut, .int .i64 sd, .int .i64 le, .int .i64 ti, .int .i64 ty, .int .i64 ch]) (t := 23) ?hr ?_; (case hd => rfl); (case hg => rfl); (case hr => first | (go_simp; done) | (go_simp; rfl)); intro gh hg w1 hbox hb; have Bgh := Aside0.mk hbox; have GEgh := Aside0.mk (show w.heap.size ≤ gh by first | omega | (have h_ := below_size HB.out; omega)); clear hbox hg; have n0_ := Aside0.mk (below_step HB.out hb); clear HB; have HB := n0_; clear n0_ hb)
                | (go_at_call 9; refine (longcaselaw05_shown.calls true _ rfl).mono ?_; rintro e w2 ⟨rfl, hb⟩; have n0_ := Aside0.mk (blk_below Bgh.out hb); have n1_ := Aside0.mk (below_step HB.out hb); clear Bgh HB; have Bgh := n0_; have HB := n1_; clear n0_ n1_ hb; have a0 : w2.cell? ⟨gh, 0, none⟩ = some (.int .i64 v) := (blk_cell Bgh.out 0).trans rfl; have a1 : w2.cell? ⟨gh, 1, none⟩ = some (.int .i64 ut) := (blk_cell Bgh.out 1).trans rfl; have a2 : w2.cell? ⟨gh, 2, none⟩ = some (.int .i64 sd) := (blk_cell Bgh.out 2).trans rfl; have a3 : w2.cell? ⟨gh, 3, none⟩ = some (.int .i64 le) := (blk_cell Bgh.out 3).trans rfl; have a4 : w2.cell? ⟨gh, 4, none⟩ = some (.int .i64 ti) := (blk_cell Bgh.out 4).trans rfl; have a5 : w2.cell? ⟨gh, 5, none⟩ = some (.int .i64 ty) := (blk_cell Bgh.out 5).trans rfl; have a6 : w2.cell? ⟨gh, 6, none⟩ = some (.int .i64 ch) := (blk_cell Bgh.out 6).trans rfl)
                | (go_at_call 12; (with_reducible refine (header_Encode.calls 10 v ut sd le ti ty ch [] 1 _ EN.out).mono ?_); rintro e w5 ⟨v5, rfl, ho, hb⟩; have n0_ := Aside0.mk (blk_below Bgh.out hb); have n1_ := Aside0.mk (below_step HB.out hb); clear Bgh HB; have Bgh := n0_; have HB := n1_; clear n0_ n1_ hb; have HO := Aside0.mk ho; clear ho))
    go_ret
    exact ⟨rfl, HB.out⟩
theorem wrong_row (v ut sd le ti ty ch a b c : Int) (w : World) (_ : (Lit.int .i64 v).wf = true) (_ : (Lit.int .i64 ut).wf = true) (_ : (Lit.int .i64 sd).wf = true) (_ : (Lit.int .i64 le).wf = true) (_ : (Lit.int .i64 ti).wf = true) (_ : (Lit.int .i64 ty).wf = true) (_ : (Lit.int .i64 ch).wf = true) (_ : (Lit.int .i64 a).wf = true) (h1 : (Lit.int .u8 b).wf = true) (h2 : (Lit.int .u8 c).wf = true) :
    Calls Try.prog 6 #[.agg #[.int .i64 v, .int .i64 ut, .int .i64 sd, .int .i64 le, .int .i64 ti, .int .i64 ty, .int .i64 ch], .int .i64 a, .int .u8 b, .int .u8 c] w fun e w' => e = .returned (.bool true) ∧ Below w.heap.size w w' :=
  wrong_walk v ut sd le ti ty ch a b c w (by have := bounds_u8 h1; omega) (by have := bounds_u8 h2; omega)
end Go.Proofs.Ytgaibighfmcgoaa.Hand
