/- Sums, products, quotients: what the code's and the document's come to. -/
import Derived.Test.YtpjlhlknbaggcaaPNumAx1
import Derived.OpenShut
import Derived.WalkKit
import Derived.WalkSpells
import Derived.Outline
import Derived.Lib.Hide
namespace Go.Proofs.Ytpjlhlknbaggcaa.Hand
open Go.RowKit Go.Proofs.YtpjlhlknbaggcaaW.PrintWords PNumA
set_option linter.unusedVariables false
set_option linter.unusedSimpArgs false
theorem w64 {n : Int} (h1 : -9223372036854775808 ≤ n) (h2 : n ≤ 9223372036854775807) : wrap64 n = n := by
  unfold wrap64
  omega
def Small (a : Int) : Prop := -9223372036854775808 ≤ a ∧ a ≤ 9223372036854775807
instance (a : Int) : Decidable (Small a) := by unfold Small; infer_instance
theorem small_of {a : Int} (h : (Lit.int .i64 a).wf = true) : Small a := by have := bounds_i64 h; unfold Small; omega
theorem small_wf {a : Int} (h : Small a) : (Lit.int .i64 a).wf = true := by
  unfold Small at h
  have h1 : IntKind.i64.min = -9223372036854775808 := rfl
  have h2 : IntKind.i64.max = 9223372036854775807 := rfl
  simp only [Lit.wf, h1, h2, Bool.and_eq_true, decide_eq_true_eq]
  exact h
def addV (a b : Int) : Int × Bool := if Small (a + b) then (a + b, true) else (0, false)
def mulV (a b : Int) : Int × Bool := if Small (a * b) then (a * b, true) else (0, false)
def divV (a b : Int) : Int × Int × Bool := if b < 1 then (0, 0, false) else (a / b, a % b, true)
theorem add_f (a b : Int) (ha : Small a) (hb : Small b) : number_Add.f a b = some (addV a b) := by
  unfold Small at ha hb
  unfold number_Add.f addV
  by_cases h : Small (a + b)
  · rw [if_pos h, w64 h.1 h.2]
    unfold Small at h
    by_cases h1 : a < 0 <;> by_cases h2 : b < 0
    · rw [decide_eq_true h1, decide_eq_true h2, decide_eq_true (show a + b < 0 by omega)]; rfl
    · rw [decide_eq_true h1, decide_eq_false h2]; rfl
    · rw [decide_eq_false h1, decide_eq_true h2]; rfl
    · rw [decide_eq_false h1, decide_eq_false h2, decide_eq_false (show ¬ a + b < 0 by omega)]; rfl
  · rw [if_neg h]
    unfold Small at h
    by_cases h1 : a < 0
    · have h2 : b < 0 := by omega
      have h3 : ¬ wrap64 (a + b) < 0 := by unfold wrap64; omega
      rw [decide_eq_true h1, decide_eq_true h2, decide_eq_false h3]; rfl
    · have h2 : ¬ b < 0 := by omega
      have h3 : wrap64 (a + b) < 0 := by unfold wrap64; omega
      rw [decide_eq_false h1, decide_eq_false h2, decide_eq_true h3]; rfl
theorem radd_f (a b : Int) (ha : Small a) (hb : Small b) : longcaseref01_Add.f a b = some (addV a b) := by
  unfold Small at ha hb
  unfold longcaseref01_Add.f addV
  by_cases h : Small (a + b)
  · rw [if_pos h, w64 h.1 h.2]
    unfold Small at h
    repeat' split
    all_goals first | rfl | (exfalso; omega)
  · rw [if_neg h]
    unfold Small at h
    by_cases h1 : a < 0
    · have h2 : b < 0 := by omega
      have h3 : wrap64 (a + b) ≥ 0 := by unfold wrap64; omega
      rw [if_neg (by omega), if_pos h1, if_pos h2, if_pos h3]
    · have h3 : wrap64 (a + b) ≤ 0 := by unfold wrap64; omega
      rw [if_pos (by omega), if_pos (by omega), if_pos h3]
theorem tdm (a b : Int) (hb : 1 ≤ b) : (0 ≤ a ∧ Int.tdiv a b = a / b ∧ Int.tmod a b = a % b) ∨ (a < 0 ∧ a % b = 0 ∧ Int.tdiv a b = a / b ∧ Int.tmod a b = 0) ∨ (a < 0 ∧ a % b ≠ 0 ∧ Int.tdiv a b = a / b + 1 ∧ Int.tmod a b = a % b - b) := by
  by_cases h : 0 ≤ a
  · exact .inl ⟨h, Int.tdiv_eq_ediv_of_nonneg h, Int.tmod_eq_emod_of_nonneg h⟩
  · have hs : b.sign = 1 := Int.sign_eq_one_of_pos (by omega)
    have hd := Int.mul_ediv_add_emod a b
    have hm := Int.mul_tdiv_add_tmod a b
    by_cases h0 : a % b = 0
    · have e : Int.tdiv a b = a / b := by
        rw [Int.tdiv_eq_ediv, if_pos (.inr (Int.dvd_of_emod_eq_zero h0)), Int.add_zero]
      refine .inr (.inl ⟨by omega, h0, e, ?_⟩)
      rw [e] at hm
      omega
    · have e : Int.tdiv a b = a / b + 1 := by
        rw [Int.tdiv_eq_ediv, if_neg (by
          rintro (h1 | h1)
          · exact h h1
          · exact h0 (Int.emod_eq_zero_of_dvd h1)), hs]
      refine .inr (.inr ⟨by omega, h0, e, ?_⟩)
      rw [e, Int.mul_add, Int.mul_one] at hm
      omega
theorem div_bd (a b : Int) (ha : Small a) (hb : 1 ≤ b) : -9223372036854775808 ≤ a / b ∧ a / b ≤ 9223372036854775807 := by
  unfold Small at ha
  have h1 : -9223372036854775808 ≤ a / b := by
    rw [Int.le_ediv_iff_mul_le (by omega)]
    have : -9223372036854775808 * b ≤ -9223372036854775808 * 1 := Int.mul_le_mul_of_nonpos_left (by omega) (by omega)
    omega
  have h2 : a / b ≤ 9223372036854775807 := by
    by_cases h : 0 ≤ a
    · have := Int.ediv_le_self b h
      omega
    · have : a / b < 0 := Int.ediv_neg_of_neg_of_pos (by omega) (by omega)
      omega
  exact ⟨h1, h2⟩
theorem div_f (a b : Int) (ha : Small a) (hb : Small b) : number_Div.f a b = some (divV a b) := by
  have hab := ha
  unfold Small at hb
  unfold number_Div.f divV
  by_cases h : b < 1
  · rw [if_pos h, if_pos h]
  · have hbd := div_bd a b ha (by omega)
    have hm0 := Int.emod_nonneg a (b := b) (by omega)
    have hm1 := Int.emod_lt_of_pos a (b := b) (by omega)
    rw [if_neg h, if_neg h, if_neg (by omega)]
    rcases tdm a b (by omega) with ⟨h1, h2, h3⟩ | ⟨h1, h0, h2, h3⟩ | ⟨h1, h0, h2, h3⟩
    · rw [h2, h3, if_neg (by omega), w64 hbd.1 hbd.2]
    · rw [h2, h3, if_neg (by omega), w64 hbd.1 hbd.2, h0]
    · have hq : a / b < 0 := Int.ediv_neg_of_neg_of_pos (by omega) (by omega)
      rw [h2, h3, if_pos (by omega), w64 (n := a / b + 1) (by omega) (by omega), w64 (n := a / b + 1 - 1) (by omega) (by omega), w64 (n := a % b - b + b) (by omega) (by omega), show a / b + 1 - 1 = a / b by omega, show a % b - b + b = a % b by omega]
theorem rdiv_f (a b : Int) (ha : Small a) (hb : Small b) : longcaseref01_Div.f a b = some (divV a b) := div_f a b ha hb
def absV (a : Int) : Int := if a < 0 then -a else a
theorem size_f (a : Int) (ha : Small a) : number_size.f a = some (absV a) := by
  unfold Small at ha
  unfold number_size.f absV
  split <;> (congr 1; simp only [IntKind.wrap_u64]; omega)
theorem rsize_f (a : Int) (ha : Small a) : longcaseref01_size.f a = some (absV a) := by
  unfold Small at ha
  unfold longcaseref01_size.f absV
  split <;> (congr 1; simp only [IntKind.wrap_u64, wrap64]; omega)
theorem mask32 (n : Int) (h : 0 ≤ n) (h2 : n < 18446744073709551616) : Go.bits .and .u64 n 4294967295 = n % 4294967296 := by
  have h127 : (BitVec.ofInt 64 4294967295).toNat = 2 ^ 32 - 1 := by decide
  have key : (BitVec.ofInt 64 n &&& BitVec.ofInt 64 4294967295).toNat = (n % ((2 ^ 64 : Nat) : Int)).toNat % 2 ^ 32 := by
    rw [BitVec.toNat_and, BitVec.toNat_ofInt, h127, Nat.and_two_pow_sub_one_eq_mod]
  show IntKind.u64.wrap ((BitVec.ofInt 64 n &&& BitVec.ofInt 64 4294967295).toNat : Nat) = _
  rw [key, IntKind.wrap_u64]
  omega
theorem mul_bd32 (a b : Int) (h1 : 0 ≤ a) (h2 : a ≤ 4294967295) (h3 : 0 ≤ b) (h4 : b ≤ 4294967295) : 0 ≤ a * b ∧ a * b ≤ 18446744065119617025 := by
  refine ⟨Int.mul_nonneg h1 h3, ?_⟩
  have := Int.mul_le_mul h2 h4 h3 (by omega)
  omega
theorem mul64_parts (x1 x0 y1 y0 : Int) : (x1 * 4294967296 + x0) * (y1 * 4294967296 + y0) = x1 * y1 * 18446744073709551616 + (x1 * y0 + x0 * y1) * 4294967296 + x0 * y0 := by
  rw [Int.add_mul, Int.mul_add, Int.mul_add]
  have e1 : x1 * 4294967296 * (y1 * 4294967296) = x1 * y1 * 18446744073709551616 := by
    rw [Int.mul_assoc x1, Int.mul_left_comm 4294967296, ← Int.mul_assoc x1 y1]
    rfl
  have e2 : x1 * 4294967296 * y0 = x1 * y0 * 4294967296 := by rw [Int.mul_assoc, Int.mul_comm 4294967296, ← Int.mul_assoc]
  have e3 : x0 * (y1 * 4294967296) = x0 * y1 * 4294967296 := by rw [← Int.mul_assoc]
  rw [e1, e2, e3, Int.add_mul]
  omega
theorem mul64_f (x y : Int) (hx : 0 ≤ x ∧ x ≤ 9223372036854775808) (hy : 0 ≤ y ∧ y ≤ 9223372036854775808) : bits_Mul64.f x y = some (x * y / 18446744073709551616, x * y % 18446744073709551616) := by
  unfold bits_Mul64.f
  have hp := mul64_parts (x / 4294967296) (x % 4294967296) (y / 4294967296) (y % 4294967296)
  have ex : x / 4294967296 * 4294967296 + x % 4294967296 = x := by omega
  have ey : y / 4294967296 * 4294967296 + y % 4294967296 = y := by omega
  rw [ex, ey] at hp
  have b11 := mul_bd32 (x / 4294967296) (y / 4294967296) (by omega) (by omega) (by omega) (by omega)
  have b10 := mul_bd32 (x / 4294967296) (y % 4294967296) (by omega) (by omega) (by omega) (by omega)
  have b01 := mul_bd32 (x % 4294967296) (y / 4294967296) (by omega) (by omega) (by omega) (by omega)
  have b00 := mul_bd32 (x % 4294967296) (y % 4294967296) (by omega) (by omega) (by omega) (by omega)
  rw [mask32 x (by omega) (by omega), mask32 y (by omega) (by omega)]
  simp only [IntKind.wrap_u64]
  generalize x / 4294967296 * (y / 4294967296) = p11 at *
  generalize x / 4294967296 * (y % 4294967296) = p10 at *
  generalize x % 4294967296 * (y / 4294967296) = p01 at *
  generalize x % 4294967296 * (y % 4294967296) = p00 at *
  generalize x * y = p at *
  rw [mask32 _ (by omega) (by omega)]
  congr 2
  omega
theorem abs_mul (a b : Int) : absV a * absV b = absV (a * b) ∧ (((a < 0) = (b < 0)) → 0 ≤ a * b) ∧ (¬ ((a < 0) = (b < 0)) → a * b ≤ 0) := by
  by_cases h1 : a < 0 <;> by_cases h2 : b < 0
  · have := Int.mul_pos_of_neg_of_neg h1 h2
    refine ⟨?_, fun _ => by omega, fun h => absurd (by simp [h1, h2]) h⟩
    unfold absV
    rw [if_pos h1, if_pos h2, if_neg (by omega), Int.neg_mul_neg]
  · have hn : 0 ≤ -a * b := Int.mul_nonneg (by omega) (by omega)
    have e : -a * b = -(a * b) := Int.neg_mul a b
    refine ⟨?_, fun h => by simp [h1, h2] at h, fun _ => by omega⟩
    unfold absV
    rw [if_pos h1, if_neg h2, e]
    split <;> omega
  · have hn : 0 ≤ a * -b := Int.mul_nonneg (by omega) (by omega)
    have e : a * -b = -(a * b) := Int.mul_neg a b
    refine ⟨?_, fun h => by simp [h1, h2] at h, fun _ => by omega⟩
    unfold absV
    rw [if_neg h1, if_pos h2, e]
    split <;> omega
  · have hn : 0 ≤ a * b := Int.mul_nonneg (by omega) (by omega)
    refine ⟨?_, fun _ => hn, fun h => absurd (by simp [h1, h2]) h⟩
    unfold absV
    rw [if_neg h1, if_neg h2, if_neg (by omega)]
theorem abs_bd (a : Int) (h : Small a) : 0 ≤ absV a ∧ absV a ≤ 9223372036854775808 := by
  unfold Small at h
  unfold absV
  split <;> omega
def most (a b : Int) : Int := if (a < 0) = (b < 0) then 9223372036854775807 else 9223372036854775808
theorem fits_iff (a b : Int) : Small (a * b) ↔ absV a * absV b ≤ most a b := by
  obtain ⟨h1, h2, h3⟩ := abs_mul a b
  rw [h1]
  unfold Small most absV
  by_cases h : (a < 0) = (b < 0)
  · have := h2 h
    rw [if_pos h]
    split <;> omega
  · have := h3 h
    rw [if_neg h]
    split <;> omega
theorem size_c (a : Int) (ha : Small a) (w : World) : Calls Try.prog 26 #[.int .i64 a] w fun e w' => e = .returned (.int .u64 (absV a)) ∧ Drawn0 w w' := number_size.calls a _ w (size_f a ha)
theorem rsize_c (a : Int) (ha : Small a) (w : World) : Calls Try.prog 27 #[.int .i64 a] w fun e w' => e = .returned (.int .u64 (absV a)) ∧ Drawn0 w w' := longcaseref01_size.calls a _ w (rsize_f a ha)
set_option maxHeartbeats 600000 in
theorem mul_c (a b : Int) (ha : Small a) (hb : Small b) (w : World) : Calls Try.prog 15 #[.int .i64 a, .int .i64 b] w fun e w' => e = .returned (.tuple #[.int .i64 (mulV a b).1, .bool (mulV a b).2]) ∧ Drawn0 w w' := by
  have ba := abs_bd a ha
  have bb := abs_bd b hb
  have SA := Lib.hid (size_c a ha)
  have SB := Lib.hid (size_c b hb)
  have SM := Lib.hid (fun W => bits_Mul64.calls (absV a) (absV b) _ _ W (mul64_f _ _ ba bb))
  have hf := fits_iff a b
  have hnn : 0 ≤ absV a * absV b := Int.mul_nonneg ba.1 bb.1
  unfold mulV
  have na : (a < 0) = (b < 0) ∨ ¬ ((a < 0) = (b < 0)) := Classical.em _
  generalize absV a * absV b = p at *
  have hm : most a b ≤ 9223372036854775808 := by unfold most; split <;> omega
  have hmo : ∀ (x y : Bool), decide (a < 0) = x → decide (b < 0) = y → most a b = if x = y then 9223372036854775807 else 9223372036854775808 := by
    intro x y hx hy
    subst hx hy
    unfold most
    by_cases h1 : a < 0 <;> by_cases h2 : b < 0 <;> simp [h1, h2]
  by_cases hs : Small (a * b)
  · rw [if_pos hs]
    have hle := hf.1 hs
    have h0 : p / 18446744073709551616 = 0 := by omega
    have h1 : p % 18446744073709551616 = p := by omega
    rw [h0, h1] at SM
    have hw : wrap64 (a * b) = a * b := w64 hs.1 hs.2
    have hw2 : IntKind.i64.wrap (a * b) = a * b := by rw [IntKind.wrap_i64]; unfold Small at hs; omega
    clear hf hs ha hb ba bb hm h0 h1 na
    rcases hd1 : decide (a < 0) with _ | _ <;> rcases hd2 : decide (b < 0) with _ | _
    all_goals
      have hmm := hmo _ _ hd1 hd2
      simp only [if_true, if_false, Bool.false_eq_true, Bool.true_eq_false] at hmm
      rw [hmm] at hle
      clear hmm hmo
      have t1 := decide_eq_false (show ¬ _ < p from Int.not_lt.2 hle)
      clear hle
      (go_enter Try.func15, Try.ntmps15; go_wp2_with (first | (go_at_call 26; (with_reducible refine (SA.out _).mono ?_); rintro e w1 ⟨rfl, ⟨n1, rfl⟩⟩) | (go_at_call 26; (with_reducible refine (SB.out _).mono ?_); rintro e w1 ⟨rfl, ⟨n1, rfl⟩⟩) | (go_at_call 25; (with_reducible refine (SM.out _).mono ?_); rintro e w1 ⟨rfl, ⟨n1, rfl⟩⟩)); go_ret2; exact ⟨rfl, ⟨⟨_, rfl⟩⟩⟩)
  · rw [if_neg hs]
    have hgt : ¬ p ≤ most a b := fun h => hs (hf.2 h)
    by_cases h0 : p / 18446744073709551616 = 0
    · have h1 : p % 18446744073709551616 = p := by omega
      rw [h0, h1] at SM
      clear hf hs ha hb ba bb hm h0 h1 na
      rcases hd1 : decide (a < 0) with _ | _ <;> rcases hd2 : decide (b < 0) with _ | _
      all_goals
        have hmm := hmo _ _ hd1 hd2
        simp only [if_true, if_false, Bool.false_eq_true, Bool.true_eq_false] at hmm
        rw [hmm] at hgt
        clear hmm hmo
        have t1 := decide_eq_true (Int.not_le.1 hgt)
        clear hgt
        (go_enter Try.func15, Try.ntmps15; go_wp2_with (first | (go_at_call 26; (with_reducible refine (SA.out _).mono ?_); rintro e w1 ⟨rfl, ⟨n1, rfl⟩⟩) | (go_at_call 26; (with_reducible refine (SB.out _).mono ?_); rintro e w1 ⟨rfl, ⟨n1, rfl⟩⟩) | (go_at_call 25; (with_reducible refine (SM.out _).mono ?_); rintro e w1 ⟨rfl, ⟨n1, rfl⟩⟩)); go_ret2; exact ⟨rfl, ⟨⟨_, rfl⟩⟩⟩)
    · have t0 : (p / 18446744073709551616 != 0) = true := bne_iff_ne.mpr h0
      generalize p / 18446744073709551616 = H at *
      generalize p % 18446744073709551616 = Lo at *
      clear hf hs ha hb ba bb hm h0 na hgt hmo
      rcases hd1 : decide (a < 0) with _ | _ <;> rcases hd2 : decide (b < 0) with _ | _
      all_goals
        (go_enter Try.func15, Try.ntmps15; go_wp2_with (first | (go_at_call 26; (with_reducible refine (SA.out _).mono ?_); rintro e w1 ⟨rfl, ⟨n1, rfl⟩⟩) | (go_at_call 26; (with_reducible refine (SB.out _).mono ?_); rintro e w1 ⟨rfl, ⟨n1, rfl⟩⟩) | (go_at_call 25; (with_reducible refine (SM.out _).mono ?_); rintro e w1 ⟨rfl, ⟨n1, rfl⟩⟩)); go_ret2; exact ⟨rfl, ⟨⟨_, rfl⟩⟩⟩)
theorem div_gt (X Y m : Int) (hX : 0 ≤ X) (hY : 1 ≤ Y) (hm : 0 ≤ m) : (m / Y < X ↔ m < X * Y) := Int.ediv_lt_iff_lt_mul (by omega)
set_option maxHeartbeats 600000 in
theorem rmul_c (a b : Int) (ha : Small a) (hb : Small b) (w : World) : Calls Try.prog 16 #[.int .i64 a, .int .i64 b] w fun e w' => e = .returned (.tuple #[.int .i64 (mulV a b).1, .bool (mulV a b).2]) ∧ Drawn0 w w' := by
  by_cases ha0 : a = 0
  · subst ha0
    have e : mulV 0 b = (0, true) := by unfold mulV; rw [Int.zero_mul, if_pos (by unfold Small; omega)]
    rw [e]
    clear e ha hb
    go_enter Try.func16, Try.ntmps16
    go_wp2
    go_ret2
    exact ⟨rfl, Drawn0.refl _⟩
  · have z1 : (a == 0) = false := beq_eq_false_iff_ne.mpr ha0
    by_cases hb0 : b = 0
    · subst hb0
      have e : mulV a 0 = (0, true) := by unfold mulV; rw [Int.mul_zero, if_pos (by unfold Small; omega)]
      rw [e]
      clear e ha hb ha0
      go_enter Try.func16, Try.ntmps16
      go_wp2
      go_ret2
      exact ⟨rfl, Drawn0.refl _⟩
    · have z2 : (b == 0) = false := beq_eq_false_iff_ne.mpr hb0
      have ba := abs_bd a ha
      have bb := abs_bd b hb
      have bb1 : 1 ≤ absV b := by unfold absV; split <;> omega
      have SA := Lib.hid (rsize_c a ha)
      have SB := Lib.hid (rsize_c b hb)
      have hf := fits_iff a b
      have hmo : ∀ (x y : Bool), decide (a < 0) = x → decide (b < 0) = y → most a b = if x = y then 9223372036854775807 else 9223372036854775808 := by
        intro x y hx hy
        subst hx hy
        unfold most
        by_cases h1 : a < 0 <;> by_cases h2 : b < 0 <;> simp [h1, h2]
      have hm0 : 0 ≤ most a b := by unfold most; split <;> omega
      have hdg := div_gt (absV a) (absV b) (most a b) ba.1 bb1 hm0
      unfold mulV
      generalize absV a = X at *
      generalize absV b = Y at *
      have y0 : (Y == 0) = false := beq_eq_false_iff_ne.mpr (by omega)
      have y2 : Y ≠ 0 := by omega
      have td : ∀ m : Int, 0 ≤ m → Int.tdiv m Y = m / Y := fun m h => Int.tdiv_eq_ediv_of_nonneg h
      have y3 : 0 ≤ Y := by omega
      have y4 := bb.2
      by_cases hs : Small (a * b)
      · rw [if_pos hs]
        have hle : ¬ most a b / Y < X := fun h => by have h2 := hdg.1 h; have h3 := hf.1 hs; omega
        have hw : wrap64 (a * b) = a * b := w64 hs.1 hs.2
        have hw2 : IntKind.i64.wrap (a * b) = a * b := by rw [IntKind.wrap_i64]; unfold Small at hs; omega
        clear hf hs ha hb ba bb hdg hm0 ha0 hb0
        rcases hd1 : decide (a < 0) with _ | _ <;> rcases hd2 : decide (b < 0) with _ | _
        all_goals
          have hmm := hmo _ _ hd1 hd2
          simp only [if_true, if_false, Bool.false_eq_true, Bool.true_eq_false] at hmm
          rw [hmm] at hle
          clear hmm hmo
          have t1 := decide_eq_false hle
          rw [← td _ (by decide)] at hle
          have t2 := decide_eq_false hle
          clear hle td
          (go_enter Try.func16, Try.ntmps16; go_wp2_with (first | (go_at_call 27; (with_reducible refine (SA.out _).mono ?_); rintro e w1 ⟨rfl, ⟨n1, rfl⟩⟩) | (go_at_call 27; (with_reducible refine (SB.out _).mono ?_); rintro e w1 ⟨rfl, ⟨n1, rfl⟩⟩)); go_ret2; exact ⟨rfl, ⟨⟨_, rfl⟩⟩⟩)
      · rw [if_neg hs]
        have hgt : most a b / Y < X := hdg.2 (by have h3 : ¬ X * Y ≤ most a b := fun h => hs (hf.2 h); omega)
        clear hf hs ha hb ba bb hdg hm0 ha0 hb0
        rcases hd1 : decide (a < 0) with _ | _ <;> rcases hd2 : decide (b < 0) with _ | _
        all_goals
          have hmm := hmo _ _ hd1 hd2
          simp only [if_true, if_false, Bool.false_eq_true, Bool.true_eq_false] at hmm
          rw [hmm] at hgt
          clear hmm hmo
          have t1 := decide_eq_true hgt
          rw [← td _ (by decide)] at hgt
          have t2 := decide_eq_true hgt
          clear hgt td
          (go_enter Try.func16, Try.ntmps16; go_wp2_with (first | (go_at_call 27; (with_reducible refine (SA.out _).mono ?_); rintro e w1 ⟨rfl, ⟨n1, rfl⟩⟩) | (go_at_call 27; (with_reducible refine (SB.out _).mono ?_); rintro e w1 ⟨rfl, ⟨n1, rfl⟩⟩)); go_ret2; exact ⟨rfl, ⟨⟨_, rfl⟩⟩⟩)
end Go.Proofs.Ytpjlhlknbaggcaa.Hand
