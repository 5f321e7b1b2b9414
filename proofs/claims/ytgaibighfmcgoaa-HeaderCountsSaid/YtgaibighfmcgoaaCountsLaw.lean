/- The walk of the statement HeaderCounts: it returns true. -/
import Derived.Test.YtgaibighfmcgoaaWrong
import Derived.Deep.QuietTactic
import Derived.BigQuiet
namespace Go.Proofs.Ytgaibighfmcgoaa.Hand
open Go.RowKit Go.Proofs.YtgaibighfmcgoaaW.PrintWords Go.Proofs.YtgaibighfmcgoaaW.PrintLast Go.Proofs.YtgaibighfmcgoaaW.PrintMore Go.Proofs.Ytgaibighfmcgoaa.PHdrA
set_option linter.unusedVariables false
set_option linter.unusedSimpArgs false
theorem info3_ : (Try.prog.info? 3).map (fun i => (i.zero, i.size, i.bytes)) = some (some (.int .i64 0), 1, 8) := by kernel_rfl
theorem counts_pure (v ut sd le ti ty ch : Int) (L : List Int) (hr : rightP v ut sd le ti ty ch) (hL : L = hbytes v ut sd le ti ty ch) :
    (∀ i, i < 6 → num4 L i = [ut, sd, le, ti, ty, ch].getD i 0) ∧ strOfNums (L.take 4) = ⟨#[84, 90, 105, 102]⟩ ∧ rd L 4 = if v > 1 then (48 + v) % 256 else 0 := by
  have h44 : L.length = 44 := by rw [hL]; exact hbytes_len _ _ _ _ _ _ _
  have hd : L.drop 20 = six4 ut sd le ti ty ch := by rw [hL]; exact hb_drop _ _ _ _ _ _ _
  obtain ⟨n0, n1, n2, n3, n4, n5⟩ := num4_six L ut sd le ti ty ch (by rw [hd, List.take_of_length_le (by rw [six4_len]; omega)]) (right_bds hr)
  refine ⟨fun i hi => ?_, ?_, ?_⟩
  · obtain rfl | rfl | rfl | rfl | rfl | rfl : i = 0 ∨ i = 1 ∨ i = 2 ∨ i = 3 ∨ i = 4 ∨ i = 5 := by omega
    · exact n0
    · exact n1
    · exact n2
    · exact n3
    · exact n4
    · exact n5
  · rw [hL, hb_take4]
    rfl
  · rw [hL]
    exact hb_rd4 _ _ _ _ _ _ _
theorem chunk_snoc (L : List Int) (a j : Nat) (h : a + j < L.length) : (L.take (a + (j + 1))).drop a = (L.take (a + j)).drop a ++ [rd L ((a + j : Nat) : Int)] := by
  rw [rd_at, ← Nat.add_assoc, List.take_succ_eq_append_getElem (by omega), List.drop_append_of_le_length (by simp; omega)]
  congr 2
  rw [List.getD_eq_getElem?_getD, List.getElem?_eq_getElem (by omega)]
  rfl
theorem chunk_bd (L : List Int) (hb : Bytes L) (a j : Nat) (hj : j ≤ 3) (h : a + j ≤ L.length) : 0 ≤ bval ((L.take (a + j)).drop a) ∧ bval ((L.take (a + j)).drop a) < 16777216 := by
  have h1 := bval_bd _ ((hb.take (a + j)).drop a)
  have e : ((L.take (a + j)).drop a).length = j := by simp; omega
  have hp : (256 : Int) ^ j ≤ 256 ^ 3 := pow_mono' hj
  have h2 : (256 : Int) ^ 3 = 16777216 := by decide +kernel
  rw [e] at h1
  omega
set_option maxHeartbeats 2000000 in
set_option maxRecDepth 100000 in
theorem counts_walk (v ut sd le ti ty ch : Int) (w : World) :
    Calls Try.prog 8 #[.agg #[.int .i64 v, .int .i64 ut, .int .i64 sd, .int .i64 le, .int .i64 ti, .int .i64 ty, .int .i64 ch]] w fun e w' => e = .returned (.bool true) ∧ Below w.heap.size w w' := by
  have hu23 := Try.underlying23
  have HB := Aside0.mk (Below.refl w.heap.size w)
  by_cases hr : rightP v ut sd le ti ty ch
  · have EN := Aside0.mk (encode_f 10 (by omega) v ut sd le ti ty ch hr)
    obtain ⟨L, hL⟩ : ∃ x, x = hbytes v ut sd le ti ty ch := ⟨_, rfl⟩
    have L44 := Aside0.mk (show L.length = 44 by rw [hL]; exact hbytes_len _ _ _ _ _ _ _)
    obtain ⟨hN, hS, h4⟩ := counts_pure v ut sd le ti ty ch L hr hL
    have HYB := Aside0.mk (show Bytes L by rw [hL]; exact hb_bytes _ _ _ _ _ _ _)
    rw [← hL] at EN
    have HN := Aside0.mk hN
    have HS := Aside0.mk hS
    have H4 := Aside0.mk h4
    have HV := Aside0.mk hr.1
    clear hL hr hN hS h4
    go_enter Try.func8, Try.ntmps8
    go_upto_region 3 with (first
                | ((with_reducible refine gate_dst (N := 1) rfl ?_); refine box_event ?hg (N := 1) ?hd (cs := #[.int .i64 v, .int .i64 ut, .int .i64 sd, .int .i64 le, .int .i64 ti, .int .i64 ty, .int .i64 ch]) (t := 23) ?hr ?_; (case hd => rfl); (case hg => rfl); (case hr => first | (go_simp; done) | (go_simp; rfl)); intro gh hg w1 hbox hb; have Bgh := Aside0.mk hbox; have GEgh := Aside0.mk (show w.heap.size ≤ gh by first | omega | (have h_ := below_size HB.out; omega)); clear hbox hg; have n0_ := Aside0.mk (below_step HB.out hb); clear HB; have HB := n0_; clear n0_ hb)
                | (go_at_call 9; refine (longcaselaw05_shown.calls true _ rfl).mono ?_; rintro e w2 ⟨rfl, hb⟩; have n0_ := Aside0.mk (blk_below Bgh.out hb); have n1_ := Aside0.mk (below_step HB.out hb); clear Bgh HB; have Bgh := n0_; have HB := n1_; clear n0_ n1_ hb; have a0 : w2.cell? ⟨gh, 0, none⟩ = some (.int .i64 v) := (blk_cell Bgh.out 0).trans rfl; have a1 : w2.cell? ⟨gh, 1, none⟩ = some (.int .i64 ut) := (blk_cell Bgh.out 1).trans rfl; have a2 : w2.cell? ⟨gh, 2, none⟩ = some (.int .i64 sd) := (blk_cell Bgh.out 2).trans rfl; have a3 : w2.cell? ⟨gh, 3, none⟩ = some (.int .i64 le) := (blk_cell Bgh.out 3).trans rfl; have a4 : w2.cell? ⟨gh, 4, none⟩ = some (.int .i64 ti) := (blk_cell Bgh.out 4).trans rfl; have a5 : w2.cell? ⟨gh, 5, none⟩ = some (.int .i64 ty) := (blk_cell Bgh.out 5).trans rfl; have a6 : w2.cell? ⟨gh, 6, none⟩ = some (.int .i64 ch) := (blk_cell Bgh.out 6).trans rfl)
                | (go_at_call 12; (with_reducible refine (header_Encode.calls 10 v ut sd le ti ty ch L 0 _ EN.out).mono ?_); rintro e w5 ⟨v5, rfl, ho, hb⟩; have n0_ := Aside0.mk (blk_below Bgh.out hb); have n1_ := Aside0.mk (below_step HB.out hb); clear Bgh HB; have Bgh := n0_; have HB := n1_; clear n0_ n1_ hb; have HO := Aside0.mk ho; clear ho))
    obtain ⟨gx, cx, rfl⟩ : ∃ g c, v5 = .slice (some ⟨g, 0, none⟩) 44 c := by
      obtain ⟨g, c, e⟩ := Joins.ownsRow_form (Kd.own_of_R HO.out) (by rw [L44.out]; decide)
      rw [L44.out] at e
      exact ⟨g, c, e⟩
    have hcx : 44 ≤ cx := (Kd.R_reads' HO.out).2.1
    clear a0 a1 a2 a3 a4 a5 a6
    have HC1 := Aside0.mk (show Kd.C (Kd.int .u8) w5 (some ⟨gx, 0, none⟩) 44 L from by
      have h_ := (Kd.R_reads' HO.out).2.2
      first | exact h_ | rwa [L44.out] at h_)
    clear HO
    have a0 : w5.cell? ⟨gh, 0, none⟩ = some (.int .i64 v) := (blk_cell Bgh.out 0).trans rfl; have a1 : w5.cell? ⟨gh, 1, none⟩ = some (.int .i64 ut) := (blk_cell Bgh.out 1).trans rfl; have a2 : w5.cell? ⟨gh, 2, none⟩ = some (.int .i64 sd) := (blk_cell Bgh.out 2).trans rfl; have a3 : w5.cell? ⟨gh, 3, none⟩ = some (.int .i64 le) := (blk_cell Bgh.out 3).trans rfl; have a4 : w5.cell? ⟨gh, 4, none⟩ = some (.int .i64 ti) := (blk_cell Bgh.out 4).trans rfl; have a5 : w5.cell? ⟨gh, 5, none⟩ = some (.int .i64 ty) := (blk_cell Bgh.out 5).trans rfl; have a6 : w5.cell? ⟨gh, 6, none⟩ = some (.int .i64 ch) := (blk_cell Bgh.out 6).trans rfl
    go_upto_region 8 with (
      ((with_reducible refine gate_dst (N := 34) rfl ?_); refine Kd.R_lit (Kd.int .i64) w5.heap.size 3 ?hg (N := 34) ?hd (xs := [ut, sd, le, ti, ty, ch]) (inner := [.int .i64 ut, .int .i64 sd, .int .i64 le, .int .i64 ti, .int .i64 ty, .int .i64 ch]) (ok := fun _ => True) (okp := fun _ => True) ?hr ?hp (fun _ hk => hk) trivial (Below.refl _ _) (Nat.le_refl _) (by simp) ?_; (case hd => rfl); (case hg => rfl); (case hr => first | (go_simp; done) | (go_simp; rfl)); (case hp => exact (Reps.one (show Kd.M (Kd.int .i64) _ _ _ ut [.int .i64 ut] from rfl) (Reps.one (show Kd.M (Kd.int .i64) _ _ _ sd [.int .i64 sd] from rfl) (Reps.one (show Kd.M (Kd.int .i64) _ _ _ le [.int .i64 le] from rfl) (Reps.one (show Kd.M (Kd.int .i64) _ _ _ ti [.int .i64 ti] from rfl) (Reps.one (show Kd.M (Kd.int .i64) _ _ _ ty [.int .i64 ty] from rfl) (Reps.one (show Kd.M (Kd.int .i64) _ _ _ ch [.int .i64 ch] from rfl) (Reps.none _ _)))))))); intro v34 w6 ho hb hg_ hnew_; clear hg_ hnew_; have HX := Aside0.mk ho; have n0_ := Aside0.mk (blk_below Bgh.out hb); have n1_ := Aside0.mk (Kd.C_below HC1.out hb); have n2_ := Aside0.mk (below_step HB.out hb); clear Bgh HC1 HB ho hb; have Bgh := n0_; have HC1 := n1_; have HB := n2_; clear n0_ n1_ n2_))
    obtain ⟨ga, ca, rfl⟩ : ∃ g c, v34 = .slice (some ⟨g, 0, none⟩) 6 c := Joins.ownsRow_form (Kd.own_of_R HX.out) (by decide)
    have hca : 6 ≤ ca := (Kd.R_reads' HX.out).2.1
    have HLC := Aside0.mk (readsLen L44.out.symm HC1.out : Kd.C (Kd.int .u8) w6 (some ⟨gx, 0, none⟩) L.length L)
    clear a0 a1 a2 a3 a4 a5 a6
    have a0 : w6.cell? ⟨gh, 0, none⟩ = some (.int .i64 v) := (blk_cell Bgh.out 0).trans rfl
    go_wp2
    go_loop [7] (fun i => ∃ k : Nat, k ≤ 6 ∧ i = .int .i64 k) (fun i => 6 - (intOf i).toNat)
    case atStart => exact ⟨0, Nat.zero_le _, rfl⟩
    case round =>
      obtain ⟨i, hi, rfl⟩ := hrel
      by_cases hlt : i < 6
      · have i6 : decide ((i : Int) < 6) = true := decide_eq_true (by omega)
        have hcl := (Kd.R_cell 0 HX.out (i : Int) (by omega) (by simp; omega)).1
        rw [Int.toNat_natCast, rdOf_rd, rd_at] at hcl
        obtain ⟨V, hV⟩ : ∃ V, V = [ut, sd, le, ti, ty, ch].getD i 0 := ⟨_, rfl⟩
        rw [← hV] at hcl
        have HVV := Aside0.mk (show bval ((L.take (20 + 4 * i + 4)).drop (20 + 4 * i)) = V from (HN.out i hlt).trans hV.symm)
        clear hV
        have b20 : (20 : Int) + 4 * (i : Int) = ((20 + 4 * i : Nat) : Int) := by omega
        obtain ⟨a, ha⟩ : ∃ a, a = 20 + 4 * i := ⟨_, rfl⟩
        have a40 : a ≤ 40 := by omega
        rw [← ha] at b20 HVV
        have B20 := Aside0.mk b20
        clear b20 ha
        have hi0 : 0 ≤ (i : Int) := by omega
        have hi5 : (i : Int) ≤ 5 := by omega
        go_wp2
        go_loop [8, 9] (fun n k => ∃ j : Nat, j ≤ 4 ∧ k = .int .i64 j ∧ n = .int .i64 (bval ((L.take (a + j)).drop a))) (fun _ k => 4 - (intOf k).toNat)
        case atStart => exact ⟨0, Nat.zero_le _, rfl, by simp [bval]⟩
        case round =>
          obtain ⟨j, hj, rfl, rfl⟩ := hrel
          by_cases hlj : j < 4
          · have j4 : decide ((j : Int) < 4) = true := decide_eq_true (by omega)
            have hsn := chunk_snoc L a j (by rw [L44.out]; omega)
            have hbd := chunk_bd L HYB.out a j (by omega) (by rw [L44.out]; omega)
            have hx := rd_bd L HYB.out (a + j) (by rw [L44.out]; omega)
            obtain ⟨ad, eA, hmx⟩ := Kd.at_int HLC.out ((a + j : Nat) : Int) (by omega) (by rw [L44.out]; omega)
            cases eA
            rw [Int.toNat_natCast] at hmx
            have hmx : w6.cell? ⟨gx, a + j, none⟩ = some (.int .u8 (rd L ((a + j : Nat) : Int))) := by
              have e : (⟨gx, 0, none⟩ : Addr).add (a + j) = ⟨gx, a + j, none⟩ := by unfold Addr.add; split <;> simp_all
              rwa [e] at hmx
            have HE := Aside0.mk (show bval ((L.take (a + (j + 1))).drop a) = bval ((L.take (a + j)).drop a) * 256 + rd L ((a + j : Nat) : Int) by rw [hsn, bval_snoc])
            generalize bval ((L.take (a + j)).drop a) = N1 at *
            generalize rd L ((a + j : Nat) : Int) = X at *
            obtain ⟨n1, n2⟩ := hbd
            obtain ⟨x1, x2⟩ := hx
            have b20 := B20.out
            have eI : 20 + 4 * (i : Int) + (j : Int) = ((a + j : Nat) : Int) := by omega
            have l44 : a + j < 44 := by omega
            clear hsn b20
            go_wp2
            go_round
            case rel => exact ⟨j + 1, by omega, by go_num, by rw [HE.out]⟩
            case measure => simp [intOf]; omega
          · obtain rfl : j = 4 := by omega
            have hV := HVV.out
            have i6' : (i : Int) < 6 := by omega
            rw [hV]
            clear hV
            go_wp2
            go_round
            case rel => exact ⟨i + 1, by omega, by go_num⟩
            case measure => simp [intOf]; omega
      · obtain rfl : i = 6 := by omega
        have hcv : ∀ W, Aside0 (Kd.C (Kd.int .u8) W (some ⟨gx, 0, none⟩) 44 L) → (convert 28 9 (.slice (some ⟨gx, 0, none⟩) 4 cx)).run Try.prog W = .ok (.string ⟨#[84, 90, 105, 102]⟩) W := fun W h => by
          have h1 := Kd.C_string (P := Try.prog) (c := cx) Try.underlying28 Try.underlying5 Try.underlying9 (readsLen (by rw [List.length_take, L44.out]; rfl) (Kd.C_take (readsLen L44.out.symm h.out : Kd.C (Kd.int .u8) W (some ⟨gx, 0, none⟩) L.length L) (m := 4) (by rw [L44.out]; decide)) : Kd.C (Kd.int .u8) W (some ⟨gx, 0, none⟩) 4 (L.take 4))
          rwa [HS.out] at h1
        have HCV := Aside0.mk hcv
        have hx4 : ∀ W, Aside0 (Kd.C (Kd.int .u8) W (some ⟨gx, 0, none⟩) 44 L) → W.cell? ⟨gx, 4, none⟩ = some (.int .u8 (rd L 4)) := fun W h => by
          obtain ⟨ad, eA, hmx⟩ := Kd.at_int (readsLen L44.out.symm h.out : Kd.C (Kd.int .u8) W (some ⟨gx, 0, none⟩) L.length L) (4 : Int) (by omega) (by rw [L44.out]; omega)
          cases eA
          have e : (⟨gx, 0, none⟩ : Addr).add (4 : Int).toNat = ⟨gx, 4, none⟩ := by unfold Addr.add; split <;> simp_all
          rwa [e] at hmx
        have HX4 := Aside0.mk hx4
        clear hcv hx4
        obtain ⟨X, hX⟩ : ∃ X, X = rd L 4 := ⟨_, rfl⟩
        have h4 := H4.out
        rw [← hX] at HX4 h4
        obtain ⟨v1, v4⟩ := HV.out
        clear hX H4
        go_upto_region 18 with (fail)
        have HBD := Aside0.mk (below_drew1 HB.out)
        have BgD := Aside0.mk (blk_drew Bgh.out)
        have HCD := Aside0.mk (Kd.C_drew HC1.out)
        have s0 := a0
        by_cases hv : v > 1
        · rw [if_pos hv] at h4
          obtain rfl : X = 48 + v := by omega
          have z1 : (v == 1) = false := beq_eq_false_iff_ne.mpr (by omega)
          clear h4
          have c18 := fun n => HCV.out (w6.drewN n) ⟨Kd.C_drewN HC1.out n⟩
          have c19 := HCV.out w6 HC1
          have e18 := HX4.out w6 HC1
          go_quiet (fail)
          go_wp2
          go_ret
          exact ⟨rfl, pw_below_drewN HB.out _⟩
        · rw [if_neg hv] at h4
          obtain rfl : v = 1 := by omega
          subst h4
          clear hv v1 v4
          have c18 := fun n => HCV.out (w6.drewN n) ⟨Kd.C_drewN HC1.out n⟩
          have c19 := HCV.out w6 HC1
          have e18 := HX4.out w6 HC1
          go_quiet (fail)
          go_wp2
          go_ret
          exact ⟨rfl, pw_below_drewN HB.out _⟩
  · have EN := Aside0.mk (encode_no 10 v ut sd le ti ty ch hr)
    clear hr
    go_enter Try.func8, Try.ntmps8
    go_wp2_with (first
                | ((with_reducible refine gate_dst (N := 1) rfl ?_); refine box_event ?hg (N := 1) ?hd (cs := #[.int .i64 v, .int .i64 ut, .int .i64 sd, .int .i64 le, .int .i64 ti, .int .i64 ty, .int .i64 ch]) (t := 23) ?hr ?_; (case hd => rfl); (case hg => rfl); (case hr => first | (go_simp; done) | (go_simp; rfl)); intro gh hg w1 hbox hb; have Bgh := Aside0.mk hbox; have GEgh := Aside0.mk (show w.heap.size ≤ gh by first | omega | (have h_ := below_size HB.out; omega)); clear hbox hg; have n0_ := Aside0.mk (below_step HB.out hb); clear HB; have HB := n0_; clear n0_ hb)
                | (go_at_call 9; refine (longcaselaw05_shown.calls true _ rfl).mono ?_; rintro e w2 ⟨rfl, hb⟩; have n0_ := Aside0.mk (blk_below Bgh.out hb); have n1_ := Aside0.mk (below_step HB.out hb); clear Bgh HB; have Bgh := n0_; have HB := n1_; clear n0_ n1_ hb; have a0 : w2.cell? ⟨gh, 0, none⟩ = some (.int .i64 v) := (blk_cell Bgh.out 0).trans rfl; have a1 : w2.cell? ⟨gh, 1, none⟩ = some (.int .i64 ut) := (blk_cell Bgh.out 1).trans rfl; have a2 : w2.cell? ⟨gh, 2, none⟩ = some (.int .i64 sd) := (blk_cell Bgh.out 2).trans rfl; have a3 : w2.cell? ⟨gh, 3, none⟩ = some (.int .i64 le) := (blk_cell Bgh.out 3).trans rfl; have a4 : w2.cell? ⟨gh, 4, none⟩ = some (.int .i64 ti) := (blk_cell Bgh.out 4).trans rfl; have a5 : w2.cell? ⟨gh, 5, none⟩ = some (.int .i64 ty) := (blk_cell Bgh.out 5).trans rfl; have a6 : w2.cell? ⟨gh, 6, none⟩ = some (.int .i64 ch) := (blk_cell Bgh.out 6).trans rfl)
                | (go_at_call 12; (with_reducible refine (header_Encode.calls 10 v ut sd le ti ty ch [] 1 _ EN.out).mono ?_); rintro e w5 ⟨v5, rfl, ho, hb⟩; have n0_ := Aside0.mk (blk_below Bgh.out hb); have n1_ := Aside0.mk (below_step HB.out hb); clear Bgh HB; have Bgh := n0_; have HB := n1_; clear n0_ n1_ hb; clear ho))
    go_ret
    exact ⟨rfl, HB.out⟩
theorem counts_row (v ut sd le ti ty ch : Int) (w : World) (_ : (Lit.int .i64 v).wf = true) (_ : (Lit.int .i64 ut).wf = true) (_ : (Lit.int .i64 sd).wf = true) (_ : (Lit.int .i64 le).wf = true) (_ : (Lit.int .i64 ti).wf = true) (_ : (Lit.int .i64 ty).wf = true) (_ : (Lit.int .i64 ch).wf = true) :
    Calls Try.prog 8 #[.agg #[.int .i64 v, .int .i64 ut, .int .i64 sd, .int .i64 le, .int .i64 ti, .int .i64 ty, .int .i64 ch]] w fun e w' => e = .returned (.bool true) ∧ Below w.heap.size w w' := counts_walk v ut sd le ti ty ch w
end Go.Proofs.Ytgaibighfmcgoaa.Hand
