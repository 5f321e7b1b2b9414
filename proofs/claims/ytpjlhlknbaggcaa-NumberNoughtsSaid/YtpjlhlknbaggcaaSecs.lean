/- Contracts of number.Seconds, number.Float, and the document's. -/
import Derived.Test.YtpjlhlknbaggcaaFl
namespace Go.Proofs.Ytpjlhlknbaggcaa.Hand
open Go.RowKit Go.Proofs.YtpjlhlknbaggcaaW.PrintWords Flt Ieee
set_option linter.unusedVariables false
set_option linter.unusedSimpArgs false
theorem two11 : (2 : Int) ^ (1085 - 1074) = 2048 := by decide +kernel
theorem hi_w : Fine 4890909195324358656 ∧ val 4890909195324358656 = 9223372036854775808 * SS := by
  have hc : Canon 4503599627370496 1085 := ⟨by omega, .inr (by omega), by omega⟩
  have hr := read_word false 4503599627370496 1085 hc
  have e : double.word false (1085 * 4503599627370496 + 4503599627370496) = 4890909195324358656 := by decide +kernel
  rw [e] at hr
  refine ⟨⟨_, _, _, hr, hc⟩, ?_⟩
  unfold val
  rw [hr, V_canon, SS_over 1085 (by omega), two11]
  unfold sg
  simp only [Bool.false_eq_true, if_false, Int.one_mul]
  rw [← Int.mul_assoc]
  rfl
theorem lo_w : Fine 14114281232179134464 ∧ val 14114281232179134464 = -9223372036854775808 * SS := by
  have hc : Canon 4503599627370496 1085 := ⟨by omega, .inr (by omega), by omega⟩
  have hr := read_word true 4503599627370496 1085 hc
  have e : double.word true (1085 * 4503599627370496 + 4503599627370496) = 14114281232179134464 := by decide +kernel
  rw [e] at hr
  refine ⟨⟨_, _, _, hr, hc⟩, ?_⟩
  unfold val
  rw [hr, V_canon, SS_over 1085 (by omega), two11]
  unfold sg
  simp only [if_true]
  rw [← Int.mul_assoc, ← Int.mul_assoc]
  rfl
theorem zero_w : Fine 0 ∧ val 0 = 0 := by
  have hr := read_word false 0 0 canon0
  have e : double.word false (0 * 4503599627370496 + 0) = 0 := by decide +kernel
  rw [e] at hr
  refine ⟨⟨_, _, _, hr, canon0⟩, ?_⟩
  unfold val
  rw [hr, V_canon]
  simp
theorem max_w : Fine 9218868437227405311 ∧ val 9218868437227405311 = 9007199254740991 * 2 ^ 2045 := by
  have hc : Canon 9007199254740991 2045 := ⟨by omega, .inr (by omega), by omega⟩
  have hr := read_word false 9007199254740991 2045 hc
  have e : double.word false (2045 * 4503599627370496 + 9007199254740991) = 9218868437227405311 := by decide +kernel
  rw [e] at hr
  refine ⟨⟨_, _, _, hr, hc⟩, ?_⟩
  unfold val
  rw [hr, V_canon]
  unfold sg
  simp only [Bool.false_eq_true, if_false, Int.one_mul]
  rfl
theorem mod_fine (x : Nat) (h : Fine x) : ∃ m k : Nat, double.read (x % 9223372036854775808) = .number false m ((k : Int) - 1074) ∧ Canon m k := by
  obtain ⟨s, m, k, hr, hc⟩ := h
  have key : x % 9223372036854775808 < 9218868437227405312 := by
    rcases Nat.lt_or_ge (x % 9223372036854775808) 9218868437227405312 with h | h
    · exact h
    · exfalso
      unfold Format.read at hr
      rw [dbl_sign, dbl_binade, dbl_inf, dbl_least] at hr
      dsimp only at hr
      rw [if_neg (by omega), if_neg (by omega)] at hr
      split at hr <;> cases hr
  rcases read_cases (x % 9223372036854775808) with ⟨s', m', k', h1, h2⟩ | ⟨s', h1⟩ | ⟨s', t', h1⟩
  · have hs : s' = false := by
      unfold Format.read at h1
      rw [dbl_sign, dbl_binade, dbl_inf, dbl_least] at h1
      dsimp only at h1
      have e : (x % 9223372036854775808 / 9223372036854775808 % 2 == 1) = false := by
        rw [Nat.div_eq_of_lt (Nat.mod_lt _ (by decide))]
        rfl
      rw [e] at h1
      split at h1
      · exact (Datum.number.inj h1).1.symm
      · split at h1
        · exact (Datum.number.inj h1).1.symm
        · split at h1 <;> cases h1
    subst hs
    exact ⟨m', k', h1, h2⟩
  · exfalso
    unfold Format.read at h1
    rw [dbl_sign, dbl_binade, dbl_inf, dbl_least, Nat.mod_mod] at h1
    dsimp only at h1
    split at h1
    · cases h1
    · first
        | (cases h1; done)
        | (split at h1 <;> first | (cases h1; done) | omega)
  · exfalso
    unfold Format.read at h1
    rw [dbl_sign, dbl_binade, dbl_inf, dbl_least, Nat.mod_mod] at h1
    dsimp only at h1
    split at h1
    · cases h1
    · first
        | (cases h1; done)
        | (split at h1 <;> first | (cases h1; done) | omega)
theorem fine_notInf (x : Nat) (h : Fine x) : (FloatKind.f64.format.order (x % 9223372036854775808) 9218868437227405311 == some .gt) = false := by
  obtain ⟨m, k, hr, hc⟩ := mod_fine x h
  have hf : Fine (x % 9223372036854775808) := ⟨_, _, _, hr, hc⟩
  have hv : val (x % 9223372036854775808) ≤ val 9218868437227405311 := by
    rw [max_w.2]
    unfold val
    rw [hr, V_canon]
    unfold sg
    simp only [Bool.false_eq_true, if_false, Int.one_mul]
    obtain ⟨h1, h2, h3⟩ := hc
    have hk : k ≤ 2045 := by omega
    have e : (2 : Int) ^ 2045 = 2 ^ (2045 - k) * 2 ^ k := by rw [← Int.pow_add, Nat.sub_add_cancel hk]
    have hp : (1 : Int) ≤ 2 ^ (2045 - k) := by have := pos2 (2045 - k); omega
    rw [e, ← Int.mul_assoc]
    refine Int.mul_le_mul_of_nonneg_right ?_ (Int.le_of_lt (pos2 k))
    have h4 : (9007199254740991 : Int) * 1 ≤ 9007199254740991 * 2 ^ (2045 - k) := Int.mul_le_mul_of_nonneg_left hp (by decide)
    generalize (2 : Int) ^ (2045 - k) = P at *
    omega
  rcases Int.lt_or_eq_of_le hv with h | h
  · rw [fine_lt hf max_w.1 h]; rfl
  · rw [fine_eq hf max_w.1 h]; rfl
theorem inf_floor (x : Nat) (h : Inf x) : (FloatKind.f64.format.order (floorB x) (floorB x)) = some .eq ∧ (FloatKind.f64.format.order (floorB x % 9223372036854775808) 9218868437227405311 == some .gt) = true := by
  obtain ⟨s, h⟩ := h
  unfold floorB
  rw [h]
  cases s <;> exact ⟨by decide +kernel, by decide +kernel⟩
theorem floor_fine (x : Nat) (h : Fine x) : Fine (floorB x) ∧ val (floorB x) = val x / SS * SS := floor_word x h
theorem to_int (x : Nat) (h : Fine x) (n : Int) (hn : Int.tdiv (val x) SS = n) (h1 : -9223372036854775808 ≤ n) (h2 : n ≤ 9223372036854775807) : floatToIntVal .f64 x .i64 = some n := by
  unfold floatToIntVal
  have e : (FloatKind.f64.decode x).toInt .zero = some n := by
    rw [← hn]
    exact trunc_word x h
  rw [e]
  dsimp only
  rw [if_pos ⟨h1, h2⟩]
theorem mul_tdiv (n : Int) : Int.tdiv (n * SS) SS = n := Int.mul_tdiv_cancel _ (Int.ne_of_gt SS_pos)
open Classical in
/-- the second of a float -/
noncomputable def secs (x : Nat) : Int × Int :=
  if Fine x then if -9223372036854775808 ≤ val x / SS ∧ val x / SS ≤ 9223372036854775807 then (val x / SS, 0) else (0, 2) else (0, 3)
theorem secs_ok {x : Nat} (h : Fine x) (h1 : -9223372036854775808 ≤ val x / SS) (h2 : val x / SS ≤ 9223372036854775807) : secs x = (val x / SS, 0) := by
  unfold secs
  rw [if_pos h, if_pos ⟨h1, h2⟩]
theorem secs_far {x : Nat} (h : Fine x) (h1 : ¬ (-9223372036854775808 ≤ val x / SS ∧ val x / SS ≤ 9223372036854775807)) : secs x = (0, 2) := by
  unfold secs
  rw [if_pos h, if_neg h1]
theorem secs_none {x : Nat} (h : ¬ Fine x) : secs x = (0, 3) := by
  unfold secs
  rw [if_neg h]
set_option maxHeartbeats 1000000 in
theorem secs_c (x : Nat) (w : World) : Calls Try.prog 19 #[.float .f64 x] w fun e w' => e = .returned (.tuple #[.int .i64 (secs x).1, .int .i64 (secs x).2]) ∧ Drawn0 w w' := by
  rcases three x with hf | hi | hn
  · have hnn := fine_nan hf
    obtain ⟨hf2, hv2⟩ := floor_fine x hf
    have o1 : FloatKind.f64.format.order (floorB x) (floorB x) = some .eq := fine_eq hf2 hf2 rfl
    have o1' : double.order (floorB x) (floorB x) = some .eq := o1
    have o2 := fine_notInf _ hf2
    have o2' : (double.order (floorB x % 9223372036854775808) 9218868437227405311 == some .gt) = false := o2
    by_cases h1 : val x / SS < -9223372036854775808
    · have o3 := fine_lt hf2 lo_w.1 (by rw [hv2, lo_w.2]; exact Int.mul_lt_mul_of_pos_right h1 SS_pos)
      rw [secs_far hf (by omega)]
      clear hf hf2 hv2 h1
      (go_enter Try.func19, Try.ntmps19; go_wp2_with (first | (go_at_call 28; refine (floor_c x hnn _).mono ?_; rintro e w1 ⟨rfl, rfl⟩) | (go_at_call 29; refine (isnan_c _ _).mono ?_; rintro e w2 ⟨rfl, rfl⟩) | (go_at_call 30; refine (isinf_c _ (floorB_lt x) _).mono ?_; rintro e w3 ⟨rfl, rfl⟩)); go_ret2)
      exact ⟨rfl, Drawn0.refl _⟩
    · by_cases h2 : 9223372036854775808 ≤ val x / SS
      · have o3 : (FloatKind.f64.format.order (floorB x) 14114281232179134464) = some .gt := fine_gt hf2 lo_w.1 (by rw [hv2, lo_w.2]; exact Int.mul_lt_mul_of_pos_right (by omega) SS_pos)
        rw [secs_far hf (by omega)]
        rcases Int.lt_or_eq_of_le h2 with h3 | h3
        · have o4 := fine_gt hf2 hi_w.1 (by rw [hv2, hi_w.2]; exact Int.mul_lt_mul_of_pos_right h3 SS_pos)
          clear hf hf2 hv2 h1 h2 h3
          (go_enter Try.func19, Try.ntmps19; go_wp2_with (first | (go_at_call 28; refine (floor_c x hnn _).mono ?_; rintro e w1 ⟨rfl, rfl⟩) | (go_at_call 29; refine (isnan_c _ _).mono ?_; rintro e w2 ⟨rfl, rfl⟩) | (go_at_call 30; refine (isinf_c _ (floorB_lt x) _).mono ?_; rintro e w3 ⟨rfl, rfl⟩)); go_ret2)
          exact ⟨rfl, Drawn0.refl _⟩
        · have o4 := fine_eq hf2 hi_w.1 (by rw [hv2, hi_w.2, h3])
          clear hf hf2 hv2 h1 h2 h3
          (go_enter Try.func19, Try.ntmps19; go_wp2_with (first | (go_at_call 28; refine (floor_c x hnn _).mono ?_; rintro e w1 ⟨rfl, rfl⟩) | (go_at_call 29; refine (isnan_c _ _).mono ?_; rintro e w2 ⟨rfl, rfl⟩) | (go_at_call 30; refine (isinf_c _ (floorB_lt x) _).mono ?_; rintro e w3 ⟨rfl, rfl⟩)); go_ret2)
          exact ⟨rfl, Drawn0.refl _⟩
      · have o4 := fine_lt hf2 hi_w.1 (by rw [hv2, hi_w.2]; exact Int.mul_lt_mul_of_pos_right (by omega) SS_pos)
        have hcv := fun W => run_convert_float_int (P := Try.prog) W 28 2 .f64 .i64 (floorB x) (val x / SS) (by kernel_rfl) Try.underlying2 (to_int _ hf2 _ (by rw [hv2, mul_tdiv]) (by omega) (by omega))
        rw [secs_ok hf (by omega) (by omega)]
        generalize val x / SS = N at *
        have o3 : FloatKind.f64.format.order (floorB x) 14114281232179134464 = some .gt ∨ FloatKind.f64.format.order (floorB x) 14114281232179134464 = some .eq := by
          by_cases h3 : N = -9223372036854775808
          · exact .inr (fine_eq hf2 lo_w.1 (by rw [hv2, lo_w.2, h3]))
          · exact .inl (fine_gt hf2 lo_w.1 (by rw [hv2, lo_w.2]; exact Int.mul_lt_mul_of_pos_right (by omega) SS_pos))
        clear hf hf2 hv2 h1 h2
        rcases o3 with o3 | o3
        · (go_enter Try.func19, Try.ntmps19; go_wp2_with (first | (go_at_call 28; refine (floor_c x hnn _).mono ?_; rintro e w1 ⟨rfl, rfl⟩) | (go_at_call 29; refine (isnan_c _ _).mono ?_; rintro e w2 ⟨rfl, rfl⟩) | (go_at_call 30; refine (isinf_c _ (floorB_lt x) _).mono ?_; rintro e w3 ⟨rfl, rfl⟩)); go_ret2)
          exact ⟨rfl, Drawn0.refl _⟩
        · (go_enter Try.func19, Try.ntmps19; go_wp2_with (first | (go_at_call 28; refine (floor_c x hnn _).mono ?_; rintro e w1 ⟨rfl, rfl⟩) | (go_at_call 29; refine (isnan_c _ _).mono ?_; rintro e w2 ⟨rfl, rfl⟩) | (go_at_call 30; refine (isinf_c _ (floorB_lt x) _).mono ?_; rintro e w3 ⟨rfl, rfl⟩)); go_ret2)
          exact ⟨rfl, Drawn0.refl _⟩
  · have hnn := inf_nan hi
    obtain ⟨o1, o2⟩ := inf_floor x hi
    have o1' : double.order (floorB x) (floorB x) = some .eq := o1
    have o2' : (double.order (floorB x % 9223372036854775808) 9218868437227405311 == some .gt) = true := o2
    rw [secs_none (inf_fine hi)]
    clear hi
    (go_enter Try.func19, Try.ntmps19; go_wp2_with (first | (go_at_call 28; refine (floor_c x hnn _).mono ?_; rintro e w1 ⟨rfl, rfl⟩) | (go_at_call 29; refine (isnan_c _ _).mono ?_; rintro e w2 ⟨rfl, rfl⟩) | (go_at_call 30; refine (isinf_c _ (floorB_lt x) _).mono ?_; rintro e w3 ⟨rfl, rfl⟩)); go_ret2)
    exact ⟨rfl, Drawn0.refl _⟩
  · rw [secs_none (fun h => fine_nan h hn)]
    (go_enter Try.func19, Try.ntmps19; go_wp2_with (first | (go_at_call 28; refine (floor_nan_c x hn _).mono ?_; rintro e w1 ⟨⟨y, rfl, hy⟩, ⟨n, rfl⟩⟩; have o1 := nan_order y hy y) | (go_at_call 29; refine (isnan_c _ _).mono ?_; rintro e w2 ⟨rfl, rfl⟩) | (go_at_call 30; refine (isinf_c _ (floorB_lt x) _).mono ?_; rintro e w3 ⟨rfl, rfl⟩)); go_ret2)
    exact ⟨rfl, ⟨⟨n, rfl⟩⟩⟩
end Go.Proofs.Ytpjlhlknbaggcaa.Hand
