/- Contracts of number.Float, and of the document's Seconds and Float. -/
import Derived.Test.YtpjlhlknbaggcaaSecs
import Derived.OpenShut
namespace Go.Proofs.Ytpjlhlknbaggcaa.Hand
open Go.RowKit Go.Proofs.YtpjlhlknbaggcaaW.PrintWords Flt Ieee
set_option linter.unusedVariables false
set_option linter.unusedSimpArgs false
def fltJ (n : Int) : Bool := decide (val (flt n) = n * SS)
theorem fltJ_of {n W : Int} (h : val (flt n) = W * SS) : fltJ n = decide (W = n) := by
  unfold fltJ
  rw [h]
  have : W * SS = n * SS ↔ W = n := ⟨fun h => Int.eq_of_mul_eq_mul_right (Int.ne_of_gt SS_pos) h, fun h => by rw [h]⟩
  simp only [this]
theorem cv_float (n : Int) (W : World) : (convert 2 28 (.int .i64 n)).run Try.prog W = .ok (.float .f64 (flt n)) W :=
  run_convert_int_float (P := Try.prog) W 2 28 .i64 .f64 n (by kernel_rfl) Try.underlying28
set_option maxHeartbeats 1000000 in
theorem float_c (n : Int) (hn : (Lit.int .i64 n).wf = true) (w : World) : Calls Try.prog 21 #[.int .i64 n] w fun e w' => e = .returned (.tuple #[.float .f64 (flt n), .bool (fltJ n)]) ∧ w = w' := by
  have hb := bounds_i64 hn
  obtain ⟨hf, W, hv, h1, h2⟩ := flt_any n (by omega) (by omega)
  rw [fltJ_of hv]
  have hcv := cv_float n
  clear hn
  by_cases h3 : W < 9223372036854775808
  · have o1 := fine_lt hf hi_w.1 (by rw [hv, hi_w.2]; exact Int.mul_lt_mul_of_pos_right h3 SS_pos)
    have hc2 := fun V => run_convert_float_int (P := Try.prog) V 28 2 .f64 .i64 (flt n) W (by kernel_rfl) Try.underlying2 (to_int _ hf _ (by rw [hv, mul_tdiv]) (by omega) (by omega))
    have hbq : (W == n) = decide (W = n) := by rw [Bool.eq_iff_iff]; simp
    generalize flt n = F at *
    clear hf hv h1 h2 h3 hb
    go_enter Try.func21, Try.ntmps21
    go_wp2
    go_ret2
    first | exact ⟨rfl, rfl⟩ | exact ⟨by rw [hbq], rfl⟩
  · have o1 := fine_eq hf hi_w.1 (by rw [hv, hi_w.2, show W = 9223372036854775808 by omega])
    have hd : decide (W = n) = false := decide_eq_false (by omega)
    rw [hd]
    generalize flt n = F at *
    clear hf hv h1 h2 h3 hb
    go_enter Try.func21, Try.ntmps21
    go_wp2
    go_ret2
    exact ⟨rfl, rfl⟩
set_option maxHeartbeats 1000000 in
theorem rfloat_c (n : Int) (hn : (Lit.int .i64 n).wf = true) (w : World) : Calls Try.prog 22 #[.int .i64 n] w fun e w' => e = .returned (.tuple #[.float .f64 (flt n), .bool (fltJ n)]) ∧ w = w' := by
  have hb := bounds_i64 hn
  obtain ⟨hf, W, hv, h1, h2⟩ := flt_any n (by omega) (by omega)
  rw [fltJ_of hv]
  have hcv := cv_float n
  clear hn
  by_cases h3 : W < 9223372036854775808
  · have o1 := fine_lt hf hi_w.1 (by rw [hv, hi_w.2]; exact Int.mul_lt_mul_of_pos_right h3 SS_pos)
    have hc2 := fun V => run_convert_float_int (P := Try.prog) V 28 2 .f64 .i64 (flt n) W (by kernel_rfl) Try.underlying2 (to_int _ hf _ (by rw [hv, mul_tdiv]) (by omega) (by omega))
    have hbq : (W == n) = decide (W = n) := by rw [Bool.eq_iff_iff]; simp
    generalize flt n = F at *
    clear hf hv h1 h2 h3 hb
    go_enter Try.func22, Try.ntmps22
    go_wp2
    go_ret2
    first | exact ⟨rfl, rfl⟩ | exact ⟨by rw [hbq], rfl⟩
  · have o1 := fine_eq hf hi_w.1 (by rw [hv, hi_w.2, show W = 9223372036854775808 by omega])
    have hd : decide (W = n) = false := decide_eq_false (by omega)
    rw [hd]
    generalize flt n = F at *
    clear hf hv h1 h2 h3 hb
    go_enter Try.func22, Try.ntmps22
    go_wp2
    go_ret2
    exact ⟨rfl, rfl⟩
/-- the whole number towards nought is a float -/
theorem trunc_exact (x : Nat) (h : Fine x) : Fine (flt (Int.tdiv (val x) SS)) ∧ val (flt (Int.tdiv (val x) SS)) = Int.tdiv (val x) SS * SS := by
  refine flt_exact _ ?_
  obtain ⟨s, m, k, hr, hc⟩ := h
  have ev : val x = sg s * ((m : Int) * 2 ^ k) := by unfold val; rw [hr, V_canon]
  have hs : ∀ A : Int, Int.tdiv (sg s * A) SS = sg s * Int.tdiv A SS := fun A => by
    unfold sg
    cases s <;> simp [Int.neg_tdiv]
  have habs : ∀ B : Int, (sg s * B).natAbs = B.natAbs := fun B => by
    unfold sg
    cases s <;> simp
  rw [ev, hs, habs]
  have hnn : (0 : Int) ≤ (m : Int) * 2 ^ k := Int.mul_nonneg (Int.natCast_nonneg _) (Int.le_of_lt (pos2 k))
  rcases Nat.le_total 1074 k with hk | hk
  · have e3 := SS_over k hk
    rw [e3, ← Int.mul_assoc (m : Int), Int.mul_tdiv_cancel _ (Int.ne_of_gt SS_pos)]
    have e4 : ((m : Int) * 2 ^ (k - 1074)).natAbs = m * 2 ^ (k - 1074) := by
      have : (m : Int) * 2 ^ (k - 1074) = ((m * 2 ^ (k - 1074) : Nat) : Int) := by rw [Int.natCast_mul, Int.natCast_pow]; rfl
      rw [this, Int.natAbs_natCast]
    rcases Nat.eq_zero_or_pos m with h0 | h0
    · left
      subst h0
      simp
    · right
      refine ⟨m, k, hc, ?_⟩
      rw [e4, Nat.mul_assoc, ← Nat.pow_add, E0_eq, Nat.sub_add_cancel hk]
  · rw [Int.tdiv_eq_ediv_of_nonneg hnn, SS_split k hk, Int.mul_ediv_mul_of_pos_left _ _ (pos2 k)]
    have e4 : ((m : Int) / 2 ^ (1074 - k)) = ((m / 2 ^ (1074 - k) : Nat) : Int) := by rw [Int.natCast_ediv, Int.natCast_pow]; rfl
    rw [e4, Int.natAbs_natCast]
    have hm : m / 2 ^ (1074 - k) ≤ m := Nat.div_le_self _ _
    have h1 := hc.1
    rcases Nat.eq_zero_or_pos (m / 2 ^ (1074 - k)) with hz | hz
    · left
      rw [hz]
      unfold sg
      cases s <;> simp
    · exact .inr (int_canon _ E0 hz (by omega) (by rw [E0_eq]; decide) (by rw [E0_eq]; decide))
theorem fine_sub (x : Nat) (h : Fine x) : ∃ z, double.sub x x = some z ∧ Fine z ∧ val z = 0 := by
  obtain ⟨s, m, k, hr, hc⟩ := h
  unfold Format.sub
  rw [hr]
  unfold Datum.opposite Datum.sum
  dsimp only
  have e : signed s m ((k : Int) - 1074 - min ((k : Int) - 1074) ((k : Int) - 1074)).toNat + signed (!s) m ((k : Int) - 1074 - min ((k : Int) - 1074) ((k : Int) - 1074)).toNat = 0 := by
    rw [signed_eq, signed_eq]
    unfold sg
    cases s <;> simp <;> omega
  rw [e]
  refine ⟨_, rfl, ?_⟩
  rw [if_pos rfl, write_number]
  have := write_val (s && !s) (Int.natAbs 0) (min ((k : Int) - 1074) ((k : Int) - 1074)) (by omega) (.inl rfl)
  exact ⟨this.1, this.2.trans (by simp)⟩
theorem inf_sub (x : Nat) (h : Inf x) : double.sub x x = none := by
  obtain ⟨s, h⟩ := h
  unfold Format.sub
  rw [h]
  cases s <;> rfl
theorem run_sub_none (x y : Nat) (h : double.sub x y = none) (w : World) : ∃ z, Nan z ∧ (binOp .sub 28 (.float .f64 x) (.float .f64 y)).run Try.prog w = .ok (.float .f64 z) w.drew := by
  have h2 : FloatKind.f64.format.sub x y = none := h
  refine ⟨_, nan_drawn (w.tape w.drawn (.nanBits .f64 x y)), ?_⟩
  simp only [binOp, Op.floatArith, h2]
  simp [Question.forced]
  rfl
theorem run_sub_fine (x : Nat) (h : Fine x) : ∃ z, (FloatKind.f64.format.order z 0 = some .eq) ∧ ∀ w, (binOp .sub 28 (.float .f64 x) (.float .f64 x)).run Try.prog w = .ok (.float .f64 z) w := by
  obtain ⟨z, h1, h2, h3⟩ := fine_sub x h
  exact ⟨z, fine_eq h2 zero_w.1 (h3.trans zero_w.2.symm), fun w => run_float_arith w .sub 28 .f64 x x z h1⟩
theorem ediv_lt (v N : Int) : v / SS < N ↔ v < N * SS := Int.ediv_lt_iff_lt_mul SS_pos
theorem le_ediv (v N : Int) : N ≤ v / SS ↔ N * SS ≤ v := Int.le_ediv_iff_mul_le SS_pos
set_option maxHeartbeats 1000000 in
theorem rsecs_c (x : Nat) (w : World) : Calls Try.prog 20 #[.float .f64 x] w fun e w' => e = .returned (.tuple #[.int .i64 (secs x).1, .int .i64 (secs x).2]) ∧ Drawn0 w w' := by
  rcases three x with hf | hi | hn
  · have o1 : FloatKind.f64.format.order x x = some .eq := fine_eq hf hf rfl
    obtain ⟨z, oz, hsub⟩ := run_sub_fine x hf
    by_cases h1 : val x / SS < -9223372036854775808
    · have o3 := fine_lt hf lo_w.1 (by rw [lo_w.2]; exact (ediv_lt _ _).1 h1)
      rw [secs_far hf (by omega)]
      clear hf h1
      go_enter Try.func20, Try.ntmps20
      go_wp2
      go_ret2
      exact ⟨rfl, Drawn0.refl _⟩
    · have h1' : -9223372036854775808 * SS ≤ val x := (le_ediv _ _).1 (by omega)
      have o3 : FloatKind.f64.format.order x 14114281232179134464 = some .gt ∨ FloatKind.f64.format.order x 14114281232179134464 = some .eq := by
        rcases Int.lt_or_eq_of_le h1' with h3 | h3
        · exact .inl (fine_gt hf lo_w.1 (by rw [lo_w.2]; exact h3))
        · exact .inr (fine_eq hf lo_w.1 (by rw [lo_w.2]; exact h3.symm))
      by_cases h2 : 9223372036854775808 ≤ val x / SS
      · have h2' := (le_ediv _ _).1 h2
        have o4 : FloatKind.f64.format.order x 4890909195324358656 = some .gt ∨ FloatKind.f64.format.order x 4890909195324358656 = some .eq := by
          rcases Int.lt_or_eq_of_le h2' with h3 | h3
          · exact .inl (fine_gt hf hi_w.1 (by rw [hi_w.2]; exact h3))
          · exact .inr (fine_eq hf hi_w.1 (by rw [hi_w.2]; exact h3.symm))
        rw [secs_far hf (by omega)]
        clear hf h1 h2 h1' h2'
        rcases o3 with o3 | o3 <;> rcases o4 with o4 | o4
        all_goals
          go_enter Try.func20, Try.ntmps20
          go_wp2
          go_ret2
          exact ⟨rfl, Drawn0.refl _⟩
      · have h2' : val x < 9223372036854775808 * SS := (ediv_lt _ _).1 (by omega)
        have o4 := fine_lt hf hi_w.1 (by rw [hi_w.2]; exact h2')
        obtain ⟨hf3, hv3⟩ := trunc_exact x hf
        obtain ⟨T, hT⟩ : ∃ T, T = Int.tdiv (val x) SS := ⟨_, rfl⟩
        rw [← hT] at hf3 hv3
        -- the number towards nought is the one below, or the next
        have hTN : (T = val x / SS ∧ T * SS ≤ val x) ∨ (T = val x / SS + 1 ∧ val x < T * SS) := by
          have hd := Int.mul_ediv_add_emod (val x) SS
          have hm0 := Int.emod_nonneg (val x) (Int.ne_of_gt SS_pos)
          have hm1 := Int.emod_lt_of_pos (val x) SS_pos
          by_cases hv0 : 0 ≤ val x
          · left
            rw [hT, Int.tdiv_eq_ediv_of_nonneg hv0]
            exact ⟨rfl, (le_ediv _ _).1 (Int.le_refl _)⟩
          · by_cases hz : val x % SS = 0
            · left
              have he : val x = val x / SS * SS := by rw [Int.mul_comm]; omega
              have hq : T = val x / SS := by rw [hT]; conv => lhs; rw [he, mul_tdiv]
              rw [hq]
              exact ⟨rfl, (le_ediv _ _).1 (Int.le_refl _)⟩
            · right
              have hq : T = val x / SS + 1 := by
                rw [hT, Int.tdiv_eq_ediv, if_neg (by
                  rintro (h | h)
                  · exact hv0 h
                  · exact hz (Int.emod_eq_zero_of_dvd h)), Int.sign_eq_one_of_pos SS_pos]
              refine ⟨hq, ?_⟩
              rw [hq]
              exact (ediv_lt _ _).1 (by omega)
        have hrange : -9223372036854775808 ≤ T ∧ T ≤ 9223372036854775807 := by
          rcases hTN with ⟨h3, h4⟩ | ⟨h3, h4⟩
          · omega
          · refine ⟨by omega, ?_⟩
            by_cases h5 : T ≤ 9223372036854775807
            · exact h5
            · exfalso
              have h6 : val x / SS = 9223372036854775807 := by omega
              have h7 : 0 ≤ val x := by
                have h8 : 0 * SS ≤ val x := (le_ediv _ _).1 (by omega)
                rwa [Int.zero_mul] at h8
              rw [Int.tdiv_eq_ediv_of_nonneg h7] at hT
              omega
        have hcv := fun W => run_convert_float_int (P := Try.prog) W 28 2 .f64 .i64 x T (by kernel_rfl) Try.underlying2 (to_int _ hf _ hT.symm hrange.1 hrange.2)
        have hcf := cv_float T
        rw [secs_ok hf (by omega) (by omega)]
        rcases hTN with ⟨h3, h4⟩ | ⟨h3, h4⟩
        · have o5 : FloatKind.f64.format.order (flt T) x = some .lt ∨ FloatKind.f64.format.order (flt T) x = some .eq := by
            rcases Int.lt_or_eq_of_le h4 with h5 | h5
            · exact .inl (fine_lt hf3 hf (by rw [hv3]; exact h5))
            · exact .inr (fine_eq hf3 hf (by rw [hv3]; exact h5))
          rw [← h3]
          generalize flt T = F at *
          clear hf h1 h2 h1' h2' hf3 hv3 hT h3 h4 hrange
          rcases o3 with o3 | o3 <;> rcases o5 with o5 | o5
          all_goals
            go_enter Try.func20, Try.ntmps20
            go_wp2
            go_ret2
            exact ⟨rfl, Drawn0.refl _⟩
        · have o5 := fine_gt hf3 hf (by rw [hv3]; exact h4)
          have h6 : val x / SS = T - 1 := by omega
          rw [h6]
          have r1 : -9223372036854775807 ≤ T := by omega
          have r2 := hrange.2
          generalize flt T = F at *
          clear hf h1 h2 h1' h2' hf3 hv3 hT h3 h4 hrange h6
          rcases o3 with o3 | o3
          all_goals
            go_enter Try.func20, Try.ntmps20
            go_wp2
            go_ret2
            exact ⟨rfl, Drawn0.refl _⟩
  · rw [secs_none (inf_fine hi)]
    have o1 := inf_order hi
    obtain ⟨z, hz, hsub⟩ := run_sub_none x x (inf_sub x hi) w
    have o2 := nan_order z hz 0
    have o2' : FloatKind.f64.format.order z 0 = none := o2
    clear hi hz
    go_enter Try.func20, Try.ntmps20
    go_wp2
    go_ret2
    exact ⟨rfl, ⟨⟨1, rfl⟩⟩⟩
  · rw [secs_none (fun h => fine_nan h hn)]
    have o1 : FloatKind.f64.format.order x x = none := nan_order x hn x
    clear hn
    go_enter Try.func20, Try.ntmps20
    go_wp2
    go_ret2
    exact ⟨rfl, Drawn0.refl _⟩
end Go.Proofs.Ytpjlhlknbaggcaa.Hand
