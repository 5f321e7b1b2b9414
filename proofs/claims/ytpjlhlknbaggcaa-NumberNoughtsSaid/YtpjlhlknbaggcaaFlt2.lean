/- Words of doubles: their numbers; rounding down; whole numbers as words; sums. -/
import Derived.Test.YtpjlhlknbaggcaaFlt
namespace Go.Proofs.Ytpjlhlknbaggcaa.Flt
open Ieee
set_option linter.unusedVariables false
set_option linter.unusedSimpArgs false
def Fine (x : Nat) : Prop := ∃ (s : Bool) (m k : Nat), double.read x = .number s m ((k : Int) - 1074) ∧ Canon m k
def val (x : Nat) : Int := V (double.read x)
theorem canon0 : Canon 0 0 := ⟨by omega, .inl rfl, by omega⟩
theorem write_val (s : Bool) (m : Nat) (i : Int) (hi : -1074 ≤ i) (h : m = 0 ∨ ∃ d k, Canon d k ∧ m * 2 ^ (i + 1074).toNat = d * 2 ^ k) : Fine (double.nearest s m i) ∧ val (double.nearest s m i) = sg s * ((m : Int) * 2 ^ (i + 1074).toNat) := by
  rcases Nat.eq_zero_or_pos m with h0 | h0
  · subst h0
    rw [nearest_zero]
    have hr := read_word s 0 0 canon0
    refine ⟨⟨s, 0, 0, hr, canon0⟩, ?_⟩
    unfold val
    rw [hr, V_canon]
    simp
  · rcases h with h | ⟨d, k, hc, he⟩
    · omega
    · have hi2 : i = (((i + 1074).toNat : Nat) : Int) - 1074 := by omega
      have hw := write_exact s m (i + 1074).toNat d k h0 hc he
      rw [← hi2] at hw
      rw [hw]
      have hr := read_word s d k hc
      refine ⟨⟨s, d, k, hr, hc⟩, ?_⟩
      unfold val
      rw [hr, V_canon]
      congr 1
      have : ((m * 2 ^ (i + 1074).toNat : Nat) : Int) = ((d * 2 ^ k : Nat) : Int) := by rw [he]
      rw [Int.natCast_mul, Int.natCast_mul, Int.natCast_pow, Int.natCast_pow] at this
      exact this.symm
theorem write_number (s : Bool) (m : Nat) (i : Int) : double.write (.number s m i) = double.nearest s m i := rfl
theorem SS_split (k : Nat) (h : k ≤ 1074) : SS = 2 ^ (1074 - k) * 2 ^ k := by
  unfold SS
  rw [← Int.pow_add, Nat.sub_add_cancel h, E0_eq]
theorem SS_over (k : Nat) (h : 1074 ≤ k) : (2 : Int) ^ k = 2 ^ (k - 1074) * SS := by
  unfold SS
  rw [← Int.pow_add, E0_eq, Nat.sub_add_cancel h]
theorem toNat0 : ((0 : Int) + 1074).toNat = E0 := by rw [E0_eq]; rfl
theorem pos2 (k : Nat) : (0 : Int) < 2 ^ k := Int.pow_pos (by decide)
theorem integral_down (s : Bool) (m k : Nat) (h : Canon m k) : ∃ c : Nat, Datum.integral .down (.number s m ((k : Int) - 1074)) = .number s c 0 ∧ sg s * (c : Int) = V (.number s m ((k : Int) - 1074)) / SS ∧ (c = 0 ∨ ∃ d j, Canon d j ∧ c * 2 ^ E0 = d * 2 ^ j) := by
  unfold Datum.integral
  dsimp only
  refine ⟨_, rfl, ?_, ?_⟩
  · rw [V_canon]
    rcases Nat.le_total 1074 k with hk | hk
    · have e1 : ((k : Int) - 1074).toNat = k - 1074 := by omega
      have e2 : (-((k : Int) - 1074)).toNat = 0 := by omega
      rw [e1, e2, cut_zero, Nat.shiftLeft_eq]
      have e3 := SS_over k hk
      rw [e3, ← Int.mul_assoc (m : Int), ← Int.mul_assoc (sg s), Int.mul_ediv_cancel _ (Int.ne_of_gt SS_pos), Int.natCast_mul, Int.natCast_pow]
      rfl
    · have e1 : ((k : Int) - 1074).toNat = 0 := by omega
      have e2 : (-((k : Int) - 1074)).toNat = 1074 - k := by omega
      rw [e1, e2, Nat.shiftLeft_zero, cut_down, SS_split k hk, ← Int.mul_assoc, Int.mul_ediv_mul_of_pos_left _ _ (pos2 k)]
  · rcases Nat.eq_zero_or_pos m with h0 | h0
    · left
      subst h0
      rw [Nat.zero_shiftLeft]
      unfold Toward.cut
      simp
    · rcases Nat.le_total 1074 k with hk | hk
      · have e1 : ((k : Int) - 1074).toNat = k - 1074 := by omega
        have e2 : (-((k : Int) - 1074)).toNat = 0 := by omega
        rw [e1, e2, cut_zero, Nat.shiftLeft_eq]
        exact .inr ⟨m, k, h, by rw [Nat.mul_assoc, ← Nat.pow_add, E0_eq, Nat.sub_add_cancel hk]⟩
      · have e1 : ((k : Int) - 1074).toNat = 0 := by omega
        have e2 : (-((k : Int) - 1074)).toNat = 1074 - k := by omega
        rw [e1, e2, Nat.shiftLeft_zero]
        have hle : Toward.down.cut s m (1074 - k) ≤ m / 2 ^ (1074 - k) + 1 := by
          unfold Toward.cut
          dsimp only
          rw [(cut_small m (1074 - k)).1]
          have := Bool.toNat_le (s && m % (1 <<< min (1074 - k) (m.log2 + 2)) != 0)
          omega
        have hm : m / 2 ^ (1074 - k) ≤ m := Nat.div_le_self _ _
        have h1 := h.1
        rcases Nat.eq_zero_or_pos (Toward.down.cut s m (1074 - k)) with hz | hz
        · exact .inl hz
        · exact .inr (int_canon _ E0 hz (by omega) (by rw [E0_eq]; decide) (by rw [E0_eq]; decide))
theorem floor_word (x : Nat) (hx : Fine x) : Fine (double.write (Datum.integral .down (double.read x))) ∧ val (double.write (Datum.integral .down (double.read x))) = val x / SS * SS := by
  obtain ⟨s, m, k, hr, hc⟩ := hx
  obtain ⟨c, h1, h2, h3⟩ := integral_down s m k hc
  unfold val
  rw [hr, h1, write_number]
  have hw := write_val s c 0 (by omega) (by rw [toNat0]; exact h3)
  refine ⟨hw.1, hw.2.trans ?_⟩
  rw [← h2, Int.mul_assoc, toNat0]
  rfl
theorem trunc_word (x : Nat) (hx : Fine x) : Datum.toInt .zero (double.read x) = some (Int.tdiv (val x) SS) := by
  obtain ⟨s, m, k, hr, hc⟩ := hx
  unfold val
  rw [hr, V_canon]
  unfold Datum.toInt Datum.integral
  dsimp only
  rw [signed_eq]
  congr 1
  rw [Int.pow_zero, Int.mul_one]
  have hs : ∀ A : Int, Int.tdiv (sg s * A) SS = sg s * Int.tdiv A SS := fun A => by
    unfold sg
    cases s <;> simp [Int.neg_tdiv]
  rw [hs]
  congr 1
  rcases Nat.le_total 1074 k with hk | hk
  · have e1 : ((k : Int) - 1074).toNat = k - 1074 := by omega
    have e2 : (-((k : Int) - 1074)).toNat = 0 := by omega
    rw [e1, e2, cut_zero, Nat.shiftLeft_eq]
    have e3 := SS_over k hk
    rw [e3, ← Int.mul_assoc (m : Int), Int.mul_tdiv_cancel _ (Int.ne_of_gt SS_pos), Int.natCast_mul, Int.natCast_pow]
    rfl
  · have e1 : ((k : Int) - 1074).toNat = 0 := by omega
    have e2 : (-((k : Int) - 1074)).toNat = 1074 - k := by omega
    have hnn : (0 : Int) ≤ (m : Int) * 2 ^ k := Int.mul_nonneg (Int.natCast_nonneg _) (Int.le_of_lt (pos2 k))
    rw [e1, e2, Nat.shiftLeft_zero, cut_zero_way, Int.tdiv_eq_ediv_of_nonneg hnn, SS_split k hk, Int.mul_ediv_mul_of_pos_left _ _ (pos2 k), Int.natCast_ediv, Int.natCast_pow]
    rfl
theorem order_word (x y : Nat) (hx : Fine x) (hy : Fine y) : double.order x y = some (compare (val x) (val y)) := by
  obtain ⟨s, m, k, hr, hc⟩ := hx
  obtain ⟨t, n, j, hr', hc'⟩ := hy
  unfold Format.order val
  rw [hr, hr']
  exact order_V s t m n _ _ (by omega) (by omega)
/-- a whole number as a float -/
def flt (n : Int) : Nat := double.nearest (decide (n < 0)) n.natAbs 0
theorem sg_abs (n : Int) : sg (decide (n < 0)) * ((n.natAbs : Nat) : Int) = n := by
  unfold sg
  by_cases h : n < 0 <;> simp [h] <;> omega
theorem flt_exact (n : Int) (h : n = 0 ∨ ∃ d k, Canon d k ∧ n.natAbs * 2 ^ E0 = d * 2 ^ k) : Fine (flt n) ∧ val (flt n) = n * SS := by
  have hw := write_val (decide (n < 0)) n.natAbs 0 (by omega) (by
    rw [toNat0]
    rcases h with h | h
    · exact .inl (by omega)
    · exact .inr h)
  refine ⟨hw.1, hw.2.trans ?_⟩
  rw [← Int.mul_assoc, sg_abs, toNat0]
  rfl
theorem flt_small (n : Int) (h1 : -9007199254740992 ≤ n) (h2 : n ≤ 9007199254740992) : Fine (flt n) ∧ val (flt n) = n * SS := by
  refine flt_exact n ?_
  by_cases h0 : n = 0
  · exact .inl h0
  · exact .inr (int_canon n.natAbs E0 (by omega) (by omega) (by rw [E0_eq]; decide) (by rw [E0_eq]; decide))
theorem canon_mk (c K : Nat) (h1 : c < 9007199254740992) (h2 : 4503599627370496 ≤ c) (h3 : K ≤ 1100) : Canon c K := ⟨h1, .inr h2, by omega⟩
theorem rung_step (L : Nat) : (L + 1074) * 4503599627370496 + 9007199254740992 = (L + 1 + 1074) * 4503599627370496 + 4503599627370496 := by omega
/-- any whole number of 64 bits, rounded: a whole number, too, that is not beyond the ends -/
theorem flt_any (n : Int) (h1 : -9223372036854775808 ≤ n) (h2 : n ≤ 9223372036854775808) : Fine (flt n) ∧ ∃ W : Int, val (flt n) = W * SS ∧ -9223372036854775808 ≤ W ∧ W ≤ 9223372036854775808 := by
  by_cases hs : -9007199254740992 ≤ n ∧ n ≤ 9007199254740992
  · obtain ⟨a, b⟩ := flt_small n hs.1 hs.2
    exact ⟨a, n, b, h1, h2⟩
  · have hm0 : 0 < n.natAbs := by omega
    have hm1 : 9007199254740992 < n.natAbs := by omega
    have hm2 : n.natAbs ≤ 9223372036854775808 := by omega
    unfold flt
    generalize decide (n < 0) = s
    generalize n.natAbs = m at *
    have p53 : (2 : Nat) ^ 53 = 9007199254740992 := by decide +kernel
    have p52 : (2 : Nat) ^ 52 = 4503599627370496 := by decide +kernel
    have p63 : (2 : Nat) ^ 63 = 9223372036854775808 := by decide +kernel
    have p64 : (2 : Nat) ^ 64 = 18446744073709551616 := by decide +kernel
    have hl1 : 53 ≤ m.log2 := (Nat.le_log2 (Nat.ne_of_gt hm0)).2 (by omega)
    have hl2 : m.log2 < 64 := (Nat.log2_lt (Nat.ne_of_gt hm0)).2 (by omega)
    obtain ⟨L, hL⟩ : ∃ L, L = m.log2 - 52 := ⟨_, rfl⟩
    have hh := (Nat.log2_eq_iff (Nat.ne_of_gt hm0)).1 rfl
    have eL : m.log2 = 52 + L := by omega
    rw [eL] at hh
    have hpL := Nat.two_pow_pos L
    have hlow1 : 4503599627370496 ≤ m / 2 ^ L := by
      rw [Nat.le_div_iff_mul_le hpL, ← p52, ← Nat.pow_add]
      exact hh.1
    have hlow2 : m / 2 ^ L < 9007199254740992 := by
      rw [Nat.div_lt_iff_lt_mul hpL, ← p53, ← Nat.pow_add, show 53 + L = 52 + L + 1 by omega]
      exact hh.2
    obtain ⟨c, hc⟩ : ∃ c, c = Toward.even.cut s m L := ⟨_, rfl⟩
    have hgap : (1 <<< min L (m.log2 + 2) : Nat) = 2 ^ L := by rw [Nat.min_eq_left (by omega), shl_one]
    have hc1 : m / 2 ^ L ≤ c ∧ c ≤ m / 2 ^ L + 1 := by
      rw [hc]
      unfold Toward.cut
      dsimp only
      rw [hgap]
      have := Bool.toNat_le (decide (2 ^ L < 2 * (m % 2 ^ L)) || 2 ^ L == 2 * (m % 2 ^ L) && m / 2 ^ L % 2 == 1)
      omega
    have hf : (double.fractionBits : Int) = 52 := rfl
    have hn : double.nearest s m 0 = double.word s ((L + 1074) * 4503599627370496 + c) := by
      unfold Format.nearest
      rw [if_neg (Nat.ne_of_gt hm0), dbl_least, dbl_binade, dbl_inf, hf]
      have hlast : max ((0 : Int) + (m.log2 : Int) - 52) (-1074) = (L : Int) := by omega
      rw [hlast]
      dsimp only
      have e1 : ((L : Int) - -1074).toNat = L + 1074 := by omega
      have e2 : ((0 : Int) - (L : Int)).toNat = 0 := by omega
      have e3 : ((L : Int) - 0).toNat = L := by omega
      rw [e1, e2, e3, Nat.shiftLeft_zero, ← hc, Nat.min_eq_left (by omega)]
    -- the end
    have hend : c * 2 ^ L ≤ 9223372036854775808 := by
      rcases Nat.lt_or_ge m.log2 63 with h63 | h63
      · have hp : 2 ^ L ≤ 2 ^ 10 := Nat.pow_le_pow_right (by decide) (by omega)
        have : c * 2 ^ L ≤ 9007199254740992 * 2 ^ 10 := Nat.mul_le_mul (by omega) hp
        exact this
      · have hm : m = 9223372036854775808 := by
          have : 2 ^ 63 ≤ m := (Nat.le_log2 (Nat.ne_of_gt hm0)).1 h63
          omega
        have hL11 : L = 11 := by omega
        have hcc : c = 4503599627370496 := by
          rw [hc, hm, hL11]
          cases s <;> decide +kernel
        rw [hcc, hL11]
        decide
    have hc52 : 4503599627370496 ≤ c := Nat.le_trans hlow1 hc1.1
    have hc54 : c ≤ 9007199254740992 := by omega
    have hL11 : L ≤ 11 := by omega
    have k1 : c < 9007199254740992 → Canon c (L + 1074) := fun h => canon_mk c _ h hc52 (by omega)
    have k2 : Canon 4503599627370496 (L + 1 + 1074) := canon_mk _ _ (by decide) (Nat.le_refl _) (by omega)
    rw [hn]
    have hV : ∀ d j : Nat, Canon d j → d * 2 ^ j = c * 2 ^ (L + E0) → Fine (double.word s (j * 4503599627370496 + d)) ∧ ∃ W : Int, val (double.word s (j * 4503599627370496 + d)) = W * SS ∧ -9223372036854775808 ≤ W ∧ W ≤ 9223372036854775808 := by
      intro d j hcj he
      have hr := read_word s d j hcj
      refine ⟨⟨s, d, j, hr, hcj⟩, sg s * ((c * 2 ^ L : Nat) : Int), ?_, ?_, ?_⟩
      · unfold val
        rw [hr, V_canon, Int.mul_assoc]
        congr 1
        have h3 : ((d * 2 ^ j : Nat) : Int) = ((c * 2 ^ L * 2 ^ E0 : Nat) : Int) := by rw [he, Nat.pow_add, Nat.mul_assoc]
        rw [Int.natCast_mul, Int.natCast_mul (c * 2 ^ L), Int.natCast_pow, Int.natCast_pow] at h3
        exact h3
      · unfold sg
        split <;> omega
      · unfold sg
        split <;> omega
    rcases Nat.lt_or_ge c 9007199254740992 with hcl | hcl
    · exact hV c (L + 1074) (k1 hcl) (by rw [E0_eq])
    · have hc53 : c = 9007199254740992 := Nat.le_antisymm hc54 hcl
      have e : (L + 1074) * 4503599627370496 + c = (L + 1 + 1074) * 4503599627370496 + 4503599627370496 := by rw [hc53]; exact rung_step L
      rw [e]
      refine hV _ _ k2 ?_
      have key : ∀ n : Nat, 4503599627370496 * 2 ^ (n + 1) = 9007199254740992 * 2 ^ n := fun n => by rw [Nat.pow_succ]; omega
      rw [hc53, E0_eq, show L + 1 + 1074 = (L + 1074) + 1 by omega]
      exact key _
end Go.Proofs.Ytpjlhlknbaggcaa.Flt
