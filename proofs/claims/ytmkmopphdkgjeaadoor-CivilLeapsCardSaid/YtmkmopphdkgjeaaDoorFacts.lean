/- What the printed functions of civil dates come to, in closed form. -/
import Derived.Test.YtmkmopphdkgjeaaDoorPCivx
import Derived.IntWalk
namespace Go.Proofs.YtmkmopphdkgjeaaDoor
open Go.RowKit Hand PCiv Cv
theorem w64 {n : Int} (h1 : -9223372036854775808 ≤ n) (h2 : n ≤ 9223372036854775807) : wrap64 n = n := by
  unfold wrap64
  omega
theorem tdivn {a b : Int} (h : 0 ≤ a) : a.tdiv b = a / b := Int.tdiv_eq_ediv_of_nonneg h
theorem tmodn {a b : Int} (h : 0 ≤ a) : a.tmod b = a % b := Int.tmod_eq_emod_of_nonneg h
theorem leap_f (y : Int) : civil_Leap.f y = some (leapB y) := by
  rw [← leap_b]
  unfold civil_Leap.f
  split
  · rename_i h
    rw [h]
    split
    · rename_i h; rw [h]; rfl
    · rename_i h; simp [h]
  · rename_i h; simp [h]
theorem rleap_f (y : Int) : longcaseref02_Leap.f y = some (leapB y) := by
  have hb := leapB_iff y
  unfold longcaseref02_Leap.f
  split
  · rename_i h
    split
    · rename_i h1
      rw [tmod0] at h h1
      congr 1
      rw [Bool.eq_iff_iff, hb, beq_iff_eq, tmod0]
      omega
    · rename_i h1
      rw [tmod0] at h h1
      congr 1
      rw [Bool.eq_iff_iff, hb]
      simp; omega
  · rename_i h
    rw [tmod0] at h
    congr 1
    rw [Bool.eq_iff_iff, hb, beq_iff_eq, tmod0]
    omega
theorem may_f (y : Int) : civil_may.f y = some (decide (-2147483648 ≤ y) && decide (y ≤ 2147483647)) := by
  unfold civil_may.f
  split
  · rename_i h; simp; omega
  · rename_i h; simp; omega
theorem right_f (y m d : Int) : civil_Right.f y m d = some (rightB y m d) := by
  unfold civil_Right.f civil_Length.f
  rw [may_f]
  simp only [Option.bind_some]
  unfold rightB
  split
  · rename_i h; rw [h]
    split
    · rename_i h1; simp; omega
    · rename_i h1; simp; omega
  · rename_i h
    rw [Bool.not_eq_true] at h
    rw [h]; simp
theorem tdm (a b : Int) (hb : 1 ≤ b) : (a.tmod b < 0 ∧ a.tdiv b = a / b + 1 ∧ a.tmod b = a % b - b) ∨ (0 ≤ a.tmod b ∧ a.tdiv b = a / b ∧ a.tmod b = a % b) := by
  have hm := Int.emod_nonneg a (b := b) (by omega)
  have hl := Int.emod_lt_of_pos a (b := b) (by omega)
  rw [Int.tmod_eq_emod, Int.tdiv_eq_ediv]
  by_cases h : 0 ≤ a ∨ b ∣ a
  · rw [if_pos h, if_pos h]; right; omega
  · rw [if_neg h, if_neg h, Int.sign_eq_one_of_pos (by omega)]; left; omega
theorem ediv_bd (a b : Int) (hb : 1 ≤ b) (h1 : -9223372036854775808 ≤ a) (h2 : a ≤ 9223372036854775807) : -9223372036854775808 ≤ a / b ∧ a / b ≤ 9223372036854775807 ∧ (a / b = 9223372036854775807 → b = 1) ∧ (a < 0 → a / b < 0) := by
  have hm := Int.emod_nonneg a (b := b) (by omega)
  have hl := Int.emod_lt_of_pos a (b := b) (by omega)
  have hd := Int.mul_ediv_add_emod a b
  refine ⟨?_, ?_, ?_, ?_⟩
  · have := Int.ediv_le_ediv (a := -9223372036854775808) (b := a) (c := b) (by omega) h1
    have h3 : -9223372036854775808 ≤ (-9223372036854775808 : Int) / b := by
      rw [Int.le_ediv_iff_mul_le (by omega)]
      have := Int.mul_le_mul_of_nonpos_left (a := -9223372036854775808) (b := b) (c := 1) (by omega) hb
      omega
    omega
  · by_cases h : 0 ≤ a
    · have := Int.ediv_le_self b h; omega
    · have := Int.ediv_neg_of_neg_of_pos (a := a) (b := b) (by omega) (by omega); omega
  · intro h
    by_cases h0 : 0 ≤ a
    · by_cases hb1 : b = 1
      · exact hb1
      · have h5 : 2 * (a / b) ≤ b * (a / b) := Int.mul_le_mul_of_nonneg_right (by omega) (by omega)
        omega
    · have := Int.ediv_neg_of_neg_of_pos (a := a) (b := b) (by omega) (by omega); omega
  · intro h; exact Int.ediv_neg_of_neg_of_pos h (by omega)
theorem div_f (a b : Int) (hb : 1 ≤ b) (hb2 : b ≤ 1000000) (h1 : -9223372036854775808 ≤ a) (h2 : a ≤ 9223372036854775807) :
    number_Div.f a b = some (a / b, a % b, true) := by
  have hm := Int.emod_nonneg a (b := b) (by omega)
  have hl := Int.emod_lt_of_pos a (b := b) (by omega)
  have hd := ediv_bd a b hb h1 h2
  have ht := tdm a b hb
  unfold number_Div.f
  rw [if_neg (by omega), if_neg (by omega)]
  rcases ht with ⟨t1, t2, t3⟩ | ⟨t1, t2, t3⟩
  · have hneg : a < 0 := by
      by_cases h : 0 ≤ a
      · rw [tmodn h] at t3; omega
      · omega
    have := hd.2.2.2 hneg
    rw [if_pos t1, t2, t3, w64 (n := a / b + 1) (by omega) (by omega), w64 (by omega) (by omega), w64 (by omega) (by omega)]
    congr 1
    simp only [Prod.mk.injEq]
    exact ⟨by omega, by omega, trivial⟩
  · rw [if_neg (by omega), t2, t3, w64 (by omega) (by omega)]
theorem rdiv_f (a b : Int) (hb : 1 ≤ b) (hb2 : b ≤ 1000000) (h1 : -9223372036854775808 ≤ a) (h2 : a ≤ 9223372036854775807) :
    longcaseref01_Div.f a b = some (a / b, a % b, true) := div_f a b hb hb2 h1 h2
theorem days_yes (y m d : Int) (h : rightB y m d = true) : civil_Days.f y m d = some (D y m d, 0) := by
  have hr := right_m h
  have hl := len_pos y m hr.1 hr.2.1
  have hc := days_code y m d ⟨hr.1, hr.2.1⟩
  unfold civil_Days.f
  rw [right_f, h]
  simp only [Option.bind_some, if_true]
  rw [w64 (n := m - 3) (by omega) (by omega)]
  by_cases h3 : m - 3 < 0
  · rw [if_pos h3, w64 (n := y - 1) (by omega) (by omega), div_f _ _ (by omega) (by omega) (by omega) (by omega)]
    rw [if_pos (by omega), if_pos (by omega)] at hc
    simp only [Option.bind_some]
    simp (disch := omega) only [w64, tdivn]
    rw [← hc]
    congr 2
    omega
  · rw [if_neg h3, div_f _ _ (by omega) (by omega) (by omega) (by omega)]
    rw [if_neg (by omega), if_neg (by omega)] at hc
    simp only [Option.bind_some]
    simp (disch := omega) only [w64, tdivn]
    rw [← hc]
theorem days_no (y m d : Int) (h : rightB y m d = false) : civil_Days.f y m d = some (0, 1) := by
  unfold civil_Days.f
  rw [right_f, h]
  rfl
theorem D_bd {y m d : Int} (h : rightB y m d = true) : -800000000000 ≤ D y m d ∧ D y m d ≤ 800000000000 := by
  have hr := right_m h
  have := D_year ⟨hr.1, hr.2.1, hr.2.2.1, hr.2.2.2.1⟩
  unfold J at this
  omega
theorem right_jan (y : Int) (h1 : -2147483648 ≤ y) (h2 : y ≤ 2147483647) : rightB y 1 1 = true := by
  apply right_mk
  have := len_pos y 1 (by omega) (by omega)
  omega
theorem D_jan (y : Int) : D y 1 1 = J y := by simp [D, cum]
theorem yd_yes (y m d : Int) (h : rightB y m d = true) : civil_Yearday.f y m d = some (cum y m + d - 1, 0) := by
  have hr := right_m h
  have hj := right_jan y hr.2.2.2.2.1 hr.2.2.2.2.2
  have b1 := D_bd h
  have b2 := D_bd hj
  unfold civil_Yearday.f
  rw [days_yes _ _ _ h, days_yes _ _ _ hj]
  simp only [Option.bind_some, if_true]
  rw [w64 (by omega) (by omega), D_jan]
  congr 2
  unfold D
  omega
theorem yd_no (y m d : Int) (h : rightB y m d = false) : civil_Yearday.f y m d = some (0, 1) := by
  unfold civil_Yearday.f
  rw [days_no _ _ _ h]
  simp
/-- a day that has a date -/
def dateB (n : Int) : Bool := decide (-784353015833 ≤ n) && decide (n ≤ 784351576776)
theorem J_lo : J (-2147483648) = -784353015833 := by decide +kernel
theorem J_hi : J 2147483648 = 784351576777 := by decide +kernel
theorem add_hi (a : Int) (h2 : a ≤ 9223372036854775807) (h : 9223372036854775807 < a + 719468) : number_Add.f a 719468 = some (0, false) := by
  unfold number_Add.f
  have e : wrap64 (a + 719468) = a + 719468 - 18446744073709551616 := by unfold wrap64; omega
  have d1 : decide (a < 0) = false := by simp; omega
  have d2 : decide (a + 719468 - 18446744073709551616 < 0) = true := by simp; omega
  rw [e, d1, d2]
  rfl
theorem add_ok (a : Int) (h1 : -9223372036854775808 ≤ a) (h : a + 719468 ≤ 9223372036854775807) : number_Add.f a 719468 = some (a + 719468, true) := by
  unfold number_Add.f
  rw [w64 (by omega) (by omega)]
  split
  · rename_i h0
    have d1 : decide (a < 0) = false := by simpa using h0
    have d2 : decide (a + 719468 < 0) = false := by simp at d1 ⊢; omega
    rw [d1, d2]
    rfl
  · rfl
theorem date_in {n : Int} : dateB n = true ↔ (-2147483648 ≤ dyear (n + 719468) ∧ dyear (n + 719468) ≤ 2147483647) := by
  have h := D_date (n + 719468)
  have e : n + 719468 - 719468 = n := by omega
  rw [e] at h
  have hy := D_year ⟨h.1, h.2.1, h.2.2.1, h.2.2.2.1⟩
  rw [h.2.2.2.2] at hy
  have l := J_lo
  have r := J_hi
  simp only [dateB, Bool.and_eq_true, decide_eq_true_eq]
  generalize dyear (n + 719468) = y at *
  constructor
  · intro hn
    constructor
    · by_cases hc : y < -2147483648
      · have := J_lt hc; omega
      · omega
    · by_cases hc : 2147483647 < y
      · by_cases hc2 : 2147483648 < y
        · have := J_lt hc2
          have := J_succ 2147483648
          have := lp_01 2147483648
          omega
        · have : y = 2147483648 := by omega
          subst this; omega
      · omega
  · intro hn
    constructor
    · by_cases hc : -2147483648 < y
      · have := J_lt hc
        have := J_succ (-2147483648)
        have := lp_01 (-2147483648)
        omega
      · have : y = -2147483648 := by omega
        subst this; omega
    · have hc : y < 2147483648 := by omega
      have := J_lt hc
      omega
theorem date_f (n : Int) (h1 : -9223372036854775808 ≤ n) (h2 : n ≤ 9223372036854775807) :
    civil_Date.f n = if dateB n = true then some (dyear (n + 719468), dmon (n + 719468), dday (n + 719468), 0) else some (0, 0, 0, 2) := by
  by_cases ho : 9223372036854775807 < n + 719468
  · have hb : dateB n = false := by simp [dateB]; omega
    unfold civil_Date.f
    rw [add_hi n h2 ho, hb]
    rfl
  · have hi := @date_in n
    have hb := dy0_bd (n + 719468)
    have hm := dm0_bd (n + 719468)
    have hl := lp_01 (dy0 (n + 719468) + 1)
    unfold civil_Date.f
    rw [add_ok n h1 (by omega)]
    simp only [Option.bind_some, if_true]
    have q1 : -9223372036854775808 ≤ n + 719468 := by omega
    have q2 : n + 719468 ≤ 9223372036854775807 := by omega
    clear ho h1 h2
    generalize n + 719468 = N at *
    rw [div_f N _ (by omega) (by omega) (by omega) (by omega)]
    simp only [Option.bind_some]
    have hr0 : 0 ≤ N % 146097 := by omega
    have hr1 : N % 146097 < 146097 := by omega
    have hq1 : -100000000000000 ≤ N / 146097 := by omega
    have hq2 : N / 146097 ≤ 100000000000000 := by omega
    have e1 : wrap64 (Int.tdiv (wrap64 ((wrap64 ((wrap64 (N % 146097 - (wrap64 (Int.tdiv (N % 146097) 1460)))) + (wrap64 (Int.tdiv (N % 146097) 36524)))) - (wrap64 (Int.tdiv (N % 146097) 146096)))) 365) = dy0 N := by
      have : 0 ≤ (N % 146097 - N % 146097 / 1460 + N % 146097 / 36524 - N % 146097 / 146096) := by omega
      simp (disch := omega) only [w64, tdivn]
      rfl
    rw [e1]
    have e2 : wrap64 (N % 146097 - (wrap64 ((wrap64 ((wrap64 (365 * (dy0 N))) + (wrap64 (Int.tdiv (dy0 N) 4)))) - (wrap64 (Int.tdiv (dy0 N) 100))))) = dr N := by
      simp (disch := omega) only [w64, tdivn]
      rfl
    rw [e2]
    have e3 : wrap64 (Int.tdiv (wrap64 ((wrap64 (5 * dr N)) + 2)) 153) = dm0 N := by
      simp (disch := omega) only [w64, tdivn]
      rfl
    rw [e3]
    have e4 : wrap64 ((wrap64 (dr N - (wrap64 (Int.tdiv (wrap64 ((wrap64 (153 * dm0 N)) + 2)) 5)))) + 1) = dday N := by
      simp (disch := omega) only [w64, tdivn]
      rfl
    rw [e4]
    have e5 : wrap64 (dy0 N + (wrap64 (400 * (N / 146097)))) = dy1 N := by
      simp (disch := omega) only [w64]
      rfl
    rw [e5]
    have h5 : -100000000000000000 ≤ dy1 N ∧ dy1 N ≤ 100000000000000000 := by unfold dy1; omega
    rw [w64 (n := dm0 N + 3) (by omega) (by omega), w64 (n := dy1 N + 1) (by omega) (by omega)]
    have hy : ∀ b : Bool, (decide (-2147483648 ≤ dyear N) && decide (dyear N ≤ 2147483647)) = b → dateB n = b := by
      intro b hb2
      cases b
      · rw [Bool.eq_false_iff]; intro hd; have := hi.1 hd; simp at hb2; omega
      · simp at hb2; exact hi.2 ⟨hb2.1, hb2.2⟩
    by_cases h3 : dm0 N + 3 > 12
    · rw [if_pos h3, may_f]
      simp only [Option.bind_some]
      have e6 : dyear N = dy1 N + 1 := by unfold dyear; rw [if_pos h3]
      have e7 : dmon N = dm0 N + 3 - 12 := by unfold dmon; rw [if_pos h3]
      rw [w64 (by omega) (by omega)]
      rw [← e6, ← e7, hy _ rfl]
    · rw [if_neg h3, may_f]
      simp only [Option.bind_some]
      have e6 : dyear N = dy1 N := by unfold dyear; rw [if_neg h3]
      have e7 : dmon N = dm0 N + 3 := by unfold dmon; rw [if_neg h3]
      rw [← e6, ← e7, hy _ rfl]
theorem weekday_f (n : Int) (h1 : -9223372036854775808 ≤ n) (h2 : n ≤ 9223372036854775807) : civil_Weekday.f n = some ((n % 7 + 4) % 7) := by
  unfold civil_Weekday.f
  rw [div_f _ _ (by omega) (by omega) h1 h2]
  simp only [Option.bind_some]
  rw [w64 (by omega) (by omega), tmodn (by omega)]
theorem rweekday_f (n : Int) (h1 : -9223372036854775808 ≤ n) (h2 : n ≤ 9223372036854775807) : longcaseref02_Weekday.f n = some ((n % 7 + 4) % 7) := by
  unfold longcaseref02_Weekday.f
  rw [rdiv_f _ _ (by omega) (by omega) h1 h2]
  simp only [Option.bind_some]
  rw [w64 (by omega) (by omega), tmodn (by omega)]
theorem shown_f : longcaselaw02_shown.f = some true := by decide +kernel
theorem rlen_f (k : Nat) (y m : Int) : longcaseref02_Length.f (k + 1) y m = some (len y m) := by
  have hl : lp y = if leapB y = true then 1 else 0 := rfl
  unfold longcaseref02_Length.f
  by_cases h1 : m < 1
  · rw [if_pos h1, len_out y m (.inl h1)]
    simp [longcaseref02_Length.j0]
  · rw [if_neg h1]
    by_cases h2 : 12 < m
    · rw [len_out y m (.inr h2)]
      simp [longcaseref02_Length.j0, h2]
    · have hd : decide (m > 12) = false := by simp; omega
      rw [hd]
      simp only [longcaseref02_Length.j0, rleap_f, Option.bind_some]
      rw [if_neg (by simp)]
      have hm : m = 1 ∨ m = 2 ∨ m = 3 ∨ m = 4 ∨ m = 5 ∨ m = 6 ∨ m = 7 ∨ m = 8 ∨ m = 9 ∨ m = 10 ∨ m = 11 ∨ m = 12 := by omega
      rcases hm with h | h | h | h | h | h | h | h | h | h | h | h <;> subst h <;> simp [len, hl]
      split <;> rfl
theorem rright_f (k : Nat) (y m d : Int) : longcaseref02_Right.f (k + 1) y m d = some (rightB y m d) := by
  unfold longcaseref02_Right.f
  rw [rlen_f]
  simp only [Option.bind_some]
  have hr : ∀ b : Bool, (b = true ↔ (1 ≤ m ∧ m ≤ 12 ∧ 1 ≤ d ∧ d ≤ len y m ∧ -2147483648 ≤ y ∧ y ≤ 2147483647)) → some b = some (rightB y m d) := by
    intro b hb
    congr 1
    rw [Bool.eq_iff_iff, hb]
    exact ⟨fun h => right_mk ⟨h.2.2.1, h.2.2.2.1, h.2.2.2.2.1, h.2.2.2.2.2⟩, fun h => right_m h⟩
  repeat' split
  all_goals apply hr
  all_goals simp
  all_goals omega
theorem ryd_l (y m : Int) (hm : m ≤ 13) (d : Nat) : ∀ (k : Nat) (n i : Int), 1 ≤ i → i ≤ m → m - i = d → d + 1 < k → 0 ≤ n → n + (cum y m - cum y i) ≤ 100000 →
    longcaseref02_Yearday.l0 k y m n i = some (n + (cum y m - cum y i)) := by
  induction d with
  | zero =>
    intro k n i h1 h2 h3 hk h0 hb
    obtain ⟨k, rfl⟩ : ∃ j, k = j + 1 := ⟨k - 1, by omega⟩
    have : i = m := by omega
    subst this
    simp only [longcaseref02_Yearday.l0]
    rw [if_neg (by omega)]
    congr 1; omega
  | succ d ih =>
    intro k n i h1 h2 h3 hk h0 hb
    obtain ⟨k, rfl⟩ : ∃ j, k = j + 1 := ⟨k - 1, by omega⟩
    have hs := cum_succ y i h1 (by omega)
    have hl := len_pos y i h1 (by omega)
    have hm2 := cum_le y (i + 1) d (by omega) (by omega)
    have e : i + 1 + (d : Int) = m := by omega
    rw [e] at hm2
    simp only [longcaseref02_Yearday.l0]
    obtain ⟨k, rfl⟩ : ∃ j, k = j + 1 := ⟨k - 1, by omega⟩
    rw [if_pos (by omega), rlen_f]
    simp only [Option.bind_some]
    rw [w64 (by omega) (by omega), w64 (by omega) (by omega), ih (k + 1) (n + len y i) (i + 1) (by omega) (by omega) (by omega) (by omega) (by omega) (by omega)]
    congr 1; omega
theorem cum_bd (y m : Int) (h1 : 1 ≤ m) (h2 : m ≤ 13) : 0 ≤ cum y m ∧ cum y m ≤ 366 := by
  have a := cum_nn y m h1 h2
  have b := cum_le y m (13 - m).toNat h1 (by omega)
  have e : m + ((13 - m).toNat : Int) = 13 := by omega
  rw [e, cum_13] at b
  have := lp_01 y
  omega
theorem ryd_f (k : Nat) (hk : 20 ≤ k) (y m d : Int) (h1 : 1 ≤ m) (h2 : m ≤ 12) (h3 : 1 ≤ d) (h4 : d ≤ 31) : longcaseref02_Yearday.f k y m d = some (cum y m + d - 1) := by
  have hb := cum_bd y m h1 (by omega)
  unfold longcaseref02_Yearday.f
  rw [w64 (by omega) (by omega), ryd_l y m (by omega) (m - 1).toNat k (d - 1) 1 (by omega) (by omega) (by omega) (by omega) (by omega) (by rw [cum_1]; omega), cum_1]
  congr 1; omega
theorem rdays_l (y m d : Int) (r : Int) (hr : r ≤ 400) (h1 : 1 ≤ m) (h2 : m ≤ 12) (h3 : 1 ≤ d) (h4 : d ≤ 31) (f : Nat) : ∀ (k : Nat) (n i : Int), 0 ≤ i → i ≤ r → r - i = f → f + 22 < k → -1000000000000 ≤ n → n + (J r - J i) ≤ 1000000000000 →
    longcaseref02_Days.l0 k y m d r n i = some (n + (J r - J i) + (cum y m + d - 1)) := by
  have hb := cum_bd y m h1 (by omega)
  induction f with
  | zero =>
    intro k n i h5 h6 h7 hk h0 hb2
    obtain ⟨k, rfl⟩ : ∃ j, k = j + 1 := ⟨k - 1, by omega⟩
    have : i = r := by omega
    subst this
    simp only [longcaseref02_Days.l0]
    rw [if_neg (by omega), ryd_f k (by omega) y m d h1 h2 h3 h4]
    simp only [Option.bind_some]
    rw [w64 (by omega) (by omega)]
    congr 1; omega
  | succ f ih =>
    intro k n i h5 h6 h7 hk h0 hb2
    obtain ⟨k, rfl⟩ : ∃ j, k = j + 1 := ⟨k - 1, by omega⟩
    have hs := J_succ i
    have hl : lp i = if leapB i = true then 1 else 0 := rfl
    have hj := J_lt (show i < r by omega)
    have hl1 := lp_01 i
    simp only [longcaseref02_Days.l0]
    obtain ⟨k, rfl⟩ : ∃ j, k = j + 1 := ⟨k - 1, by omega⟩
    rw [if_pos (by omega), rleap_f]
    simp only [Option.bind_some]
    split
    · rename_i hc
      rw [if_pos hc] at hl
      rw [w64 (n := n + 365) (by omega) (by omega), w64 (by omega) (by omega), w64 (by omega) (by omega), ih (k + 1) (n + 365 + 1) (i + 1) (by omega) (by omega) (by omega) (by omega) (by omega) (by omega)]
      congr 1; omega
    · rename_i hc
      rw [if_neg hc] at hl
      rw [w64 (n := n + 365) (by omega) (by omega), w64 (by omega) (by omega), ih (k + 1) (n + 365) (i + 1) (by omega) (by omega) (by omega) (by omega) (by omega) (by omega)]
      congr 1; omega
theorem rdays_f (k : Nat) (hk : 500 ≤ k) (y m d : Int) (h : rightB y m d = true) : longcaseref02_Days.f k y m d = some (D y m d) := by
  have hr := right_m h
  have hl := len_pos y m hr.1 hr.2.1
  have hJ : J y = J (y % 400) + 146097 * (y / 400) := by
    rw [← J_shift]; congr 1; omega
  have b1 : J 0 = -719528 := by decide +kernel
  have b2 : J (y % 400) ≤ 146097 := by unfold J; omega
  have b3 : -719528 ≤ J (y % 400) := by unfold J; omega
  unfold longcaseref02_Days.f
  rw [rdiv_f _ _ (by omega) (by omega) (by omega) (by omega)]
  simp only [Option.bind_some]
  rw [w64 (n := y / 400 * 146097) (by omega) (by omega), w64 (by omega) (by omega)]
  rw [rdays_l y m d (y % 400) (by omega) hr.1 hr.2.1 hr.2.2.1 (by omega) (y % 400).toNat k _ 0 (by omega) (by omega) (by omega) (by omega) (by omega) (by omega)]
  congr 1
  unfold D
  omega
theorem rdate_l1 (y : Int) (m0 : Int) (hm0 : m0 ≤ 12) (left0 : Int) (hlo : cum y m0 ≤ left0) (hhi : left0 < cum y m0 + len y m0) (f : Nat) : ∀ (k : Nat) (left m : Int), 1 ≤ m → m ≤ m0 → m0 - m = f → f + 2 < k → left = left0 - cum y m →
    longcaseref02_Date.l1 k left y m = some (y, m0, left0 - cum y m0 + 1, true) := by
  induction f with
  | zero =>
    intro k left m h1 h2 h3 hk hl
    obtain ⟨k, rfl⟩ : ∃ j, k = j + 1 := ⟨k - 1, by omega⟩
    have : m = m0 := by omega
    subst this hl
    have hc := cum_bd y m h1 (by omega)
    have hp := len_pos y m h1 (by omega)
    simp only [longcaseref02_Date.l1]
    obtain ⟨k, rfl⟩ : ∃ j, k = j + 1 := ⟨k - 1, by omega⟩
    rw [rlen_f]
    simp only [Option.bind_some]
    rw [if_neg (by omega), w64 (by omega) (by omega)]
  | succ f ih =>
    intro k left m h1 h2 h3 hk hl
    obtain ⟨k, rfl⟩ : ∃ j, k = j + 1 := ⟨k - 1, by omega⟩
    subst hl
    have hs := cum_succ y m h1 (by omega)
    have hc := cum_bd y m h1 (by omega)
    have hc0 := cum_bd y m0 (by omega) (by omega)
    have hp := len_pos y m h1 (by omega)
    have hp0 := len_pos y m0 (by omega) (by omega)
    have hm := cum_mono y m m0 h1 (by omega) (by omega)
    simp only [longcaseref02_Date.l1]
    obtain ⟨k, rfl⟩ : ∃ j, k = j + 1 := ⟨k - 1, by omega⟩
    rw [rlen_f]
    simp only [Option.bind_some]
    rw [if_pos (by omega), w64 (by omega) (by omega), w64 (by omega) (by omega)]
    exact ih (k + 1) _ (m + 1) (by omega) (by omega) (by omega) (by omega) (by omega)
theorem rdate_l0 (q Y R : Int) (hY : 0 ≤ Y) (hY2 : Y ≤ 399) (hR : 0 ≤ R) (hR2 : R ≤ 146096) (hlo : J Y - J 0 ≤ R) (hhi : R < J (Y + 1) - J 0) (f : Nat) : ∀ (k : Nat) (left y : Int), 0 ≤ y → y ≤ Y → Y - y = f → f + 1 < k → left = R - (J y - J 0) →
    longcaseref02_Date.l0 k q y left = longcaseref02_Date.j2 (k - f - 1) q Y (R - (J Y - J 0)) := by
  induction f with
  | zero =>
    intro k left y h1 h2 h3 hk hl
    obtain ⟨k, rfl⟩ : ∃ j, k = j + 1 := ⟨k - 1, by omega⟩
    have : y = Y := by omega
    subst this hl
    have hs := J_succ y
    have hl : lp y = if leapB y = true then 1 else 0 := rfl
    simp only [longcaseref02_Date.l0, rleap_f, Option.bind_some, Nat.sub_zero, Nat.add_sub_cancel]
    split
    · rename_i hc
      rw [if_pos hc] at hl
      rw [if_pos (by omega)]
    · rename_i hc
      rw [if_neg hc] at hl
      rw [if_pos (by omega)]
  | succ f ih =>
    intro k left y h1 h2 h3 hk hl
    obtain ⟨k, rfl⟩ : ∃ j, k = j + 1 := ⟨k - 1, by omega⟩
    subst hl
    have hs := J_succ y
    have hl : lp y = if leapB y = true then 1 else 0 := rfl
    have hj := J_lt (show y < Y by omega)
    have hj0 : J 0 ≤ J y := by unfold J; omega
    have ek : k + 1 - (f + 1) - 1 = k - f - 1 := by omega
    rw [ek]
    simp only [longcaseref02_Date.l0, rleap_f, Option.bind_some]
    split
    · rename_i hc
      rw [if_pos hc] at hl
      rw [if_neg (by omega), w64 (by omega) (by omega), w64 (by omega) (by omega)]
      exact ih k _ (y + 1) (by omega) (by omega) (by omega) (by omega) (by omega)
    · rename_i hc
      rw [if_neg hc] at hl
      rw [if_neg (by omega), w64 (by omega) (by omega), w64 (by omega) (by omega)]
      exact ih k _ (y + 1) (by omega) (by omega) (by omega) (by omega) (by omega)
theorem rdate_f (k : Nat) (hk : 1000 ≤ k) (n : Int) :
    longcaseref02_Date.f k n = if dateB n = true then some (dyear (n + 719468), dmon (n + 719468), dday (n + 719468), true) else some (0, 0, 0, false) := by
  obtain ⟨k, rfl⟩ : ∃ j, k = j + 1 := ⟨k - 1, by omega⟩
  unfold longcaseref02_Date.f
  by_cases hlo : n < -800000000000
  · have hb : dateB n = false := by simp [dateB]; omega
    rw [if_pos hlo, hb]
    simp [longcaseref02_Date.j0]
  · rw [if_neg hlo]
    by_cases hhi : n > 800000000000
    · have hb : dateB n = false := by simp [dateB]; omega
      rw [hb]
      simp [longcaseref02_Date.j0, hhi]
    · have hd : decide (n > 800000000000) = false := by simpa using hhi
      rw [hd]
      simp only [longcaseref02_Date.j0]
      rw [if_neg (by simp), w64 (by omega) (by omega), rdiv_f _ _ (by omega) (by omega) (by omega) (by omega)]
      simp only [Option.bind_some]
      have hD := D_date (n + 719468)
      have e : n + 719468 - 719468 = n := by omega
      rw [e] at hD
      have hy := D_year ⟨hD.1, hD.2.1, hD.2.2.1, hD.2.2.2.1⟩
      have hc := cum_bd (dyear (n + 719468)) (dmon (n + 719468)) hD.1 (by omega)
      have hlen := len_pos (dyear (n + 719468)) (dmon (n + 719468)) hD.1 (by omega)
      have hDd : J (dyear (n + 719468)) + cum (dyear (n + 719468)) (dmon (n + 719468)) + dday (n + 719468) - 1 = n := hD.2.2.2.2
      rw [hD.2.2.2.2] at hy
      have hi := @date_in n
      generalize dyear (n + 719468) = y at *
      generalize dmon (n + 719468) = m at *
      generalize dday (n + 719468) = d at *
      have hq1 : -100000000 ≤ (n + 719528) / 146097 := by omega
      have hq2 : (n + 719528) / 146097 ≤ 100000000 := by omega
      have hq : n + 719528 = 146097 * ((n + 719528) / 146097) + (n + 719528) % 146097 := by omega
      have hr1 : 0 ≤ (n + 719528) % 146097 := by omega
      have hr2 : (n + 719528) % 146097 < 146097 := by omega
      generalize (n + 719528) / 146097 = q at *
      generalize (n + 719528) % 146097 = r at *
      have b0 : J 0 = -719528 := by decide +kernel
      have b4 : J 400 = -573431 := by decide +kernel
      have eJ : J y = J (y - 400 * q) + 146097 * q := by rw [← J_shift]; congr 1; omega
      have eJ1 : J (y + 1) = J (y - 400 * q + 1) + 146097 * q := by rw [← J_shift]; congr 1; omega
      have hY0 : 0 ≤ y - 400 * q := by
        by_cases h : y - 400 * q < 0
        · have := J_lt h; omega
        · omega
      have hY1 : y - 400 * q ≤ 399 := by
        by_cases h : 400 ≤ y - 400 * q
        · by_cases h2 : y - 400 * q = 400
          · rw [h2] at eJ; omega
          · have := J_lt (show 400 < y - 400 * q by omega)
            have := J_succ 400
            have := lp_01 400
            omega
        · omega
      rw [rdate_l0 q (y - 400 * q) r hY0 hY1 hr1 (by omega) (by omega) (by omega) (y - 400 * q).toNat k r 0 (by omega) (by omega) (by omega) (by omega) (by omega)]
      obtain ⟨j, hj⟩ : ∃ j, k - (y - 400 * q).toNat - 1 = j + 2 := ⟨k - (y - 400 * q).toNat - 1 - 2, by omega⟩
      rw [hj]
      simp only [longcaseref02_Date.j2]
      have ey : q * 400 + (y - 400 * q) = y := by omega
      rw [w64 (n := q * 400) (by omega) (by omega), ey, w64 (n := y) (by omega) (by omega)]
      have hleft : r - (J (y - 400 * q) - J 0) = cum y m + d - 1 := by omega
      rw [hleft]
      by_cases h1 : y < -2147483648
      · have hb : dateB n = false := by rw [Bool.eq_false_iff]; intro h; have := hi.1 h; omega
        rw [if_pos h1, hb]
        simp [longcaseref02_Date.j3]
      · rw [if_neg h1]
        by_cases h2 : y > 2147483647
        · have hb : dateB n = false := by rw [Bool.eq_false_iff]; intro h; have := hi.1 h; omega
          rw [hb]
          simp [longcaseref02_Date.j3, h2]
        · have hb : dateB n = true := hi.2 ⟨by omega, by omega⟩
          have hd2 : decide (y > 2147483647) = false := by simpa using h2
          rw [hb, hd2]
          simp only [longcaseref02_Date.j3]
          rw [if_neg (by simp), rdate_l1 y m (by omega) (cum y m + d - 1) (by omega) (by omega) (m - 1).toNat j _ 1 (by omega) (by omega) (by omega) (by omega) (by rw [cum_1]; omega)]
          simp only [if_true]
          congr 4
          omega
end Go.Proofs.YtmkmopphdkgjeaaDoor
