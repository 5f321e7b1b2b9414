/- Plain laws of binary floats (doubles): what a word stands for, as a whole number of least units; comparing, rounding down, writing what fits. -/
import Ieee.Arith
namespace Go.Proofs.Ytpjlhlknbaggcaa.Flt
open Ieee
set_option linter.unusedVariables false
set_option linter.unusedSimpArgs false
/-- how many least units one is -/
def E0 : Nat := 1074
theorem E0_eq : E0 = 1074 := rfl
attribute [irreducible] E0
def SS : Int := 2 ^ E0
theorem SS_pos : 0 < SS := Int.pow_pos (by decide)
def sg (s : Bool) : Int := if s then -1 else 1
theorem signed_eq (s : Bool) (m u : Nat) : signed s m u = sg s * ((m : Int) * 2 ^ u) := by
  unfold signed sg
  rw [Nat.shiftLeft_eq]
  cases s <;> simp [Int.natCast_mul, Int.natCast_pow]
/-- what a number is, in least units -/
def V : Datum → Int
  | .number s m i => sg s * ((m : Int) * 2 ^ (i + 1074).toNat)
  | _ => 0
theorem V_num (s : Bool) (m : Nat) (i : Int) : V (.number s m i) = sg s * ((m : Int) * 2 ^ (i + 1074).toNat) := rfl
def fin : Datum → Bool
  | .number _ _ _ => true
  | _ => false
/-- the form in which words hold numbers: k places above the least one -/
def Canon (m k : Nat) : Prop := m < 9007199254740992 ∧ (k = 0 ∨ 4503599627370496 ≤ m) ∧ k * 4503599627370496 + m < 9218868437227405312
theorem dbl_binade : double.binade = 4503599627370496 := by decide +kernel
theorem dbl_inf : double.infRung = 9218868437227405312 := by decide +kernel
theorem dbl_sign : double.signWeight = 9223372036854775808 := by decide +kernel
theorem dbl_least : double.leastPlace = -1074 := by decide +kernel
theorem read_word (s : Bool) (m k : Nat) (h : Canon m k) : double.read (double.word s (k * 4503599627370496 + m)) = .number s m ((k : Int) - 1074) := by
  obtain ⟨h1, h2, h3⟩ := h
  have e1 : double.word s (k * 4503599627370496 + m) / 9223372036854775808 % 2 = if s then 1 else 0 := by
    unfold Format.word
    rw [dbl_sign]
    cases s <;> simp <;> omega
  have e2 : double.word s (k * 4503599627370496 + m) % 9223372036854775808 = k * 4503599627370496 + m := by
    unfold Format.word
    rw [dbl_sign]
    cases s <;> simp <;> omega
  unfold Format.read
  rw [dbl_sign, dbl_binade, dbl_inf, dbl_least]
  simp only [e1, e2]
  have es : ((if s = true then 1 else 0 : Nat) == 1) = s := by cases s <;> rfl
  rw [es]
  rcases h2 with h2 | h2
  · subst h2
    by_cases hb : m < 4503599627370496
    · rw [if_pos (by omega)]
      congr 1 <;> omega
    · rw [if_neg (by omega), if_pos (by omega)]
      congr 1 <;> omega
  · rw [if_neg (by omega), if_pos (by omega)]
    congr 1 <;> omega
theorem read_cases (x : Nat) : (∃ (s : Bool) (m k : Nat), double.read x = .number s m ((k : Int) - 1074) ∧ Canon m k) ∨ (∃ s, double.read x = .infinity s) ∨ (∃ s t, double.read x = .nan s t) := by
  unfold Format.read
  rw [dbl_sign, dbl_binade, dbl_inf, dbl_least]
  dsimp only
  generalize (x / 9223372036854775808 % 2 == 1) = s
  have hr : x % 9223372036854775808 < 9223372036854775808 := Nat.mod_lt _ (by decide)
  generalize x % 9223372036854775808 = r at *
  by_cases h1 : r < 4503599627370496
  · rw [if_pos h1]
    exact .inl ⟨s, r, 0, by simp, by omega, .inl rfl, by omega⟩
  · rw [if_neg h1]
    by_cases h2 : r < 9218868437227405312
    · rw [if_pos h2]
      refine .inl ⟨s, 4503599627370496 + r % 4503599627370496, r / 4503599627370496 - 1, ?_, ?_, .inr (by omega), ?_⟩
      · congr 1
      · omega
      · omega
    · rw [if_neg h2]
      by_cases h3 : r = 9218868437227405312
      · rw [if_pos h3]
        exact .inr (.inl ⟨s, rfl⟩)
      · rw [if_neg h3]
        exact .inr (.inr ⟨s, _, rfl⟩)
theorem V_canon (s : Bool) (m k : Nat) : V (.number s m ((k : Int) - 1074)) = sg s * ((m : Int) * 2 ^ k) := by
  unfold V
  have e : ((k : Int) - 1074 + 1074).toNat = k := by omega
  simp only [e]
/-- comparing -/
theorem cmp_scale (a b p : Int) (hp : 0 < p) : compare (a * p) (b * p) = compare a b := by
  have h1 : a * p < b * p ↔ a < b := ⟨fun h => Int.lt_of_mul_lt_mul_right h (Int.le_of_lt hp), fun h => Int.mul_lt_mul_of_pos_right h hp⟩
  have h2 : a * p = b * p ↔ a = b := ⟨fun h => Int.eq_of_mul_eq_mul_right (by omega) h, fun h => by rw [h]⟩
  simp only [compare, compareOfLessAndEq, h1, h2]
theorem order_V (s t : Bool) (m n : Nat) (i j : Int) (hi : -1074 ≤ i) (hj : -1074 ≤ j) : Datum.order (.number s m i) (.number t n j) = some (compare (V (.number s m i)) (V (.number t n j))) := by
  unfold Datum.order
  dsimp only
  congr 1
  have hp : (0 : Int) < 2 ^ (min i j + 1074).toNat := Int.pow_pos (by decide)
  rw [← cmp_scale _ _ _ hp, signed_eq, signed_eq, V_num, V_num]
  have e1 : (i + 1074).toNat = (i - min i j).toNat + (min i j + 1074).toNat := by omega
  have e2 : (j + 1074).toNat = (j - min i j).toNat + (min i j + 1074).toNat := by omega
  rw [e1, e2, Int.pow_add, Int.pow_add]
  simp only [Int.mul_assoc]
/-- cutting -/
theorem cut_zero (way : Toward) (neg : Bool) (n : Nat) : way.cut neg n 0 = n := by
  unfold Toward.cut
  have e : (1 <<< min 0 (n.log2 + 2) : Nat) = 1 := by rw [Nat.zero_min]; rfl
  simp only [e, Nat.div_one, Nat.mod_one]
  cases way <;> simp
theorem shl_one (d : Nat) : (1 <<< d : Nat) = 2 ^ d := by rw [Nat.shiftLeft_eq, Nat.one_mul]
theorem cut_dvd (way : Toward) (neg : Bool) (q d : Nat) (hq : 0 < q) : way.cut neg (q * 2 ^ d) d = q := by
  have hlog : d ≤ (q * 2 ^ d).log2 := by
    rw [Nat.le_log2 (by have := Nat.two_pow_pos d; exact Nat.ne_of_gt (Nat.mul_pos hq this))]
    exact Nat.le_mul_of_pos_left _ hq
  unfold Toward.cut
  rw [Nat.min_eq_left (by omega), shl_one]
  have hp := Nat.two_pow_pos d
  have e1 : q * 2 ^ d / 2 ^ d = q := Nat.mul_div_cancel _ hp
  have e2 : q * 2 ^ d % 2 ^ d = 0 := Nat.mul_mod_left _ _
  simp only [e1, e2]
  cases way <;> simp <;> omega
/-- writing what fits -/
theorem log2_mul_pow (m a : Nat) (hm : 0 < m) : (m * 2 ^ a).log2 = m.log2 + a := by
  have hp := Nat.two_pow_pos a
  rw [Nat.log2_eq_iff (Nat.ne_of_gt (Nat.mul_pos hm hp))]
  have h1 := (Nat.log2_eq_iff (Nat.ne_of_gt hm)).1 rfl
  rw [show m.log2 + a + 1 = (m.log2 + 1) + a by omega, Nat.pow_add, Nat.pow_add 2 (m.log2 + 1) a]
  exact ⟨Nat.mul_le_mul_right _ h1.1, Nat.mul_lt_mul_of_pos_right h1.2 hp⟩
theorem write_exact (s : Bool) (m a c k : Nat) (hm : 0 < m) (hc : Canon c k) (h : m * 2 ^ a = c * 2 ^ k) : double.nearest s m ((a : Int) - 1074) = double.word s (k * 4503599627370496 + c) := by
  obtain ⟨h1, h2, h3⟩ := hc
  have hc0 : 0 < c := by
    rcases Nat.eq_zero_or_pos c with h0 | h0
    · rw [h0, Nat.zero_mul] at h
      have := Nat.mul_pos hm (Nat.two_pow_pos a)
      omega
    · exact h0
  have hl : m.log2 + a = c.log2 + k := by
    rw [← log2_mul_pow m a hm, ← log2_mul_pow c k hc0, h]
  have hcl : c.log2 ≤ 52 := by
    have : c.log2 < 53 := (Nat.log2_lt (Nat.ne_of_gt hc0)).2 (by omega)
    omega
  have hck : k = 0 ∨ c.log2 = 52 := by
    rcases h2 with h2 | h2
    · exact .inl h2
    · have : 52 ≤ c.log2 := (Nat.le_log2 (Nat.ne_of_gt hc0)).2 (by omega)
      exact .inr (by omega)
  have hf : (double.fractionBits : Int) = 52 := rfl
  unfold Format.nearest
  rw [if_neg (Nat.ne_of_gt hm), dbl_least, dbl_binade, dbl_inf, hf]
  have hlast : max ((a : Int) - 1074 + (m.log2 : Int) - 52) (-1074) = (k : Int) - 1074 := by omega
  rw [hlast]
  dsimp only
  have hk2 : ((k : Int) - 1074 - -1074).toNat = k := by omega
  rw [hk2]
  have hkept : Toward.even.cut s (m <<< ((a : Int) - 1074 - ((k : Int) - 1074)).toNat) ((k : Int) - 1074 - ((a : Int) - 1074)).toNat = c := by
    rcases Nat.le_total k a with hka | hka
    · have e1 : ((a : Int) - 1074 - ((k : Int) - 1074)).toNat = a - k := by omega
      have e2 : ((k : Int) - 1074 - ((a : Int) - 1074)).toNat = 0 := by omega
      rw [e1, e2, cut_zero, Nat.shiftLeft_eq]
      have hh : m * 2 ^ (a - k) * 2 ^ k = c * 2 ^ k := by rw [Nat.mul_assoc, ← Nat.pow_add, Nat.sub_add_cancel hka, h]
      exact Nat.eq_of_mul_eq_mul_right (Nat.two_pow_pos k) hh
    · have e1 : ((a : Int) - 1074 - ((k : Int) - 1074)).toNat = 0 := by omega
      have e2 : ((k : Int) - 1074 - ((a : Int) - 1074)).toNat = k - a := by omega
      rw [e1, e2, Nat.shiftLeft_zero]
      have hh : m * 2 ^ a = c * 2 ^ (k - a) * 2 ^ a := by rw [Nat.mul_assoc, ← Nat.pow_add, Nat.sub_add_cancel hka, h]
      have hm2 : m = c * 2 ^ (k - a) := Nat.eq_of_mul_eq_mul_right (Nat.two_pow_pos a) hh
      rw [hm2]
      exact cut_dvd _ _ _ _ hc0
  rw [hkept, Nat.min_eq_left (by omega)]
theorem nearest_zero (s : Bool) (p : Int) : double.nearest s 0 p = double.word s (0 * 4503599627370496 + 0) := by
  unfold Format.nearest
  rw [if_pos rfl]
/-- a whole number that has at most 53 digits, some places up, in the form of words -/
theorem int_canon (c a : Nat) (h0 : 0 < c) (h1 : c ≤ 9007199254740992) (ha : 60 ≤ a) (ha2 : a ≤ 1100) : ∃ d k, Canon d k ∧ c * 2 ^ a = d * 2 ^ k := by
  rcases Nat.lt_or_ge c 9007199254740992 with h | h
  · have hl : c.log2 < 53 := (Nat.log2_lt (Nat.ne_of_gt h0)).2 (by omega)
    have hh := (Nat.log2_eq_iff (Nat.ne_of_gt h0)).1 rfl
    have h4 : (2 : Nat) ^ 53 = 9007199254740992 := by decide +kernel
    have h3 : c * 2 ^ (52 - c.log2) < 2 ^ (c.log2 + 1) * 2 ^ (52 - c.log2) := Nat.mul_lt_mul_of_pos_right hh.2 (Nat.two_pow_pos _)
    rw [← Nat.pow_add, show c.log2 + 1 + (52 - c.log2) = 53 by omega, h4] at h3
    have h5 : 2 ^ c.log2 * 2 ^ (52 - c.log2) ≤ c * 2 ^ (52 - c.log2) := Nat.mul_le_mul_right _ hh.1
    have h6 : (2 : Nat) ^ 52 = 4503599627370496 := by decide +kernel
    rw [← Nat.pow_add, show c.log2 + (52 - c.log2) = 52 by omega, h6] at h5
    refine ⟨c * 2 ^ (52 - c.log2), a - (52 - c.log2), ⟨h3, .inr h5, ?_⟩, ?_⟩
    · generalize c * 2 ^ (52 - c.log2) = d at *
      omega
    · rw [Nat.mul_assoc, ← Nat.pow_add, show 52 - c.log2 + (a - (52 - c.log2)) = a by omega]
  · have key : ∀ n : Nat, 9007199254740992 * 2 ^ n = 4503599627370496 * 2 ^ (n + 1) := fun n => by rw [Nat.pow_succ]; omega
    have hc : c = 9007199254740992 := by omega
    rw [hc]
    exact ⟨4503599627370496, a + 1, ⟨by omega, .inr (by omega), by omega⟩, key a⟩
/-- rounding down, and towards nought -/
theorem cut_small (m d : Nat) : m / (1 <<< min d (m.log2 + 2)) = m / 2 ^ d ∧ (m % (1 <<< min d (m.log2 + 2)) = 0 ↔ m % 2 ^ d = 0) := by
  rw [shl_one]
  rcases Nat.le_total d (m.log2 + 2) with h | h
  · rw [Nat.min_eq_left h]
    exact ⟨rfl, Iff.rfl⟩
  · rw [Nat.min_eq_right h]
    have h1 : m < 2 ^ (m.log2 + 1) := Nat.lt_log2_self
    have h2 : m < 2 ^ (m.log2 + 2) := Nat.lt_of_lt_of_le h1 (Nat.pow_le_pow_right (by decide) (by omega))
    have h3 : m < 2 ^ d := Nat.lt_of_lt_of_le h2 (Nat.pow_le_pow_right (by decide) h)
    rw [Nat.div_eq_of_lt h2, Nat.div_eq_of_lt h3, Nat.mod_eq_of_lt h2, Nat.mod_eq_of_lt h3]
    exact ⟨rfl, Iff.rfl⟩
theorem mul_neg_one' (P q : Int) : P * (-1 * (q + 1)) = -(P * q) - P := by
  rw [Int.neg_one_mul, Int.mul_neg, Int.mul_add, Int.mul_one]
  omega
theorem cut_down (s : Bool) (m d : Nat) : sg s * ((Toward.down.cut s m d : Nat) : Int) = (sg s * (m : Int)) / 2 ^ d := by
  obtain ⟨e1, e2⟩ := cut_small m d
  unfold Toward.cut
  dsimp only
  rw [e1]
  have hp := Nat.two_pow_pos d
  have hcast : ((2 : Int) ^ d) = ((2 ^ d : Nat) : Int) := by rw [Int.natCast_pow]; rfl
  rw [hcast]
  have hm := Nat.div_add_mod m (2 ^ d)
  have hlt := Nat.mod_lt m hp
  cases s with
  | false =>
    simp [sg]
  | true =>
    unfold sg
    simp only [if_true, Bool.true_and]
    by_cases h0 : m % 2 ^ d = 0
    · have : (m % (1 <<< min d (m.log2 + 2)) != 0) = false := by simpa using e2.2 h0
      rw [this]
      simp only [Bool.toNat_false, Nat.add_zero]
      have hm2 : (m : Int) = ((2 ^ d : Nat) : Int) * ((m / 2 ^ d : Nat) : Int) := by
        rw [← Int.natCast_mul]
        congr 1
        omega
      rw [show -1 * (m : Int) = ((2 ^ d : Nat) : Int) * (-1 * ((m / 2 ^ d : Nat) : Int)) by rw [hm2]; simp [Int.mul_neg], Int.mul_ediv_cancel_left _ (by omega)]
    · have : (m % (1 <<< min d (m.log2 + 2)) != 0) = true := by
        rw [bne_iff_ne]
        exact fun h => h0 (e2.1 h)
      rw [this]
      simp only [Bool.toNat_true]
      have hq : (-1 * (m : Int)) / ((2 ^ d : Nat) : Int) = -1 * ((m / 2 ^ d + 1 : Nat) : Int) := by
        have hu := (Int.ediv_emod_unique (a := -1 * (m : Int)) (b := ((2 ^ d : Nat) : Int)) (r := ((2 ^ d : Nat) : Int) - ((m % 2 ^ d : Nat) : Int)) (q := -1 * ((m / 2 ^ d + 1 : Nat) : Int)) (by omega)).2
        refine (hu ⟨?_, by omega, by omega⟩).1
        have hm2 : (m : Int) = ((2 ^ d : Nat) : Int) * ((m / 2 ^ d : Nat) : Int) + ((m % 2 ^ d : Nat) : Int) := by
          rw [← Int.natCast_mul, ← Int.natCast_add]
          congr 1
          exact hm.symm
        generalize ((2 ^ d : Nat) : Int) = P at *
        rw [hm2, Int.natCast_add]
        have e := mul_neg_one' P ((m / 2 ^ d : Nat) : Int)
        have e1' : ((1 : Nat) : Int) = 1 := rfl
        rw [e1', e]
        omega
      rw [hq]
theorem cut_zero_way (s : Bool) (m d : Nat) : Toward.zero.cut s m d = m / 2 ^ d := by
  obtain ⟨e1, e2⟩ := cut_small m d
  unfold Toward.cut
  dsimp only
  rw [e1]
  rfl
end Go.Proofs.Ytpjlhlknbaggcaa.Flt
