/- What the document's printed functions come to, in closed form. -/
import Derived.Test.YtpmcmkobpjobbaaDoorPPRx
import Derived.Test.YtpmcmkobpjobbaaDoorCkBase
namespace Go.Proofs.YtpmcmkobpjobbaaDoor
open Go.RowKit Hand PPR Cv Go.Proofs.YtpmcmkobpjobbaaDoorW.PrintWords Go.Proofs.YtpmcmkobpjobbaaDoorW.PrintLast Go.Proofs.YtpmcmkobpjobbaaDoorW.PrintMore
theorem rleap_f (y : Int) : longcaseref02_Leap.f y = some (leapB y) := by
  have hb := leapB_iff y
  unfold longcaseref02_Leap.f
  split
  · rename_i h
    split
    · rename_i h1
      rw [tmod0] at h h1
      congr 1
      rw [Bool.eq_iff_iff, hb, beq_iff_eq, tmod0]
      omega
    · rename_i h1
      rw [tmod0] at h h1
      congr 1
      rw [Bool.eq_iff_iff, hb]
      simp; omega
  · rename_i h
    rw [tmod0] at h
    congr 1
    rw [Bool.eq_iff_iff, hb, beq_iff_eq, tmod0]
    omega
theorem rdiv_f (a b : Int) (hb : 1 ≤ b) (hb2 : b ≤ 1000000) (h1 : -9223372036854775808 ≤ a) (h2 : a ≤ 9223372036854775807) :
    longcaseref01_Div.f a b = some (a / b, a % b, true) := div_f a b hb hb2 h1 h2
theorem rlen_f (k : Nat) (y m : Int) : longcaseref02_Length.f (k + 1) y m = some (len y m) := by
  have hl : lp y = if leapB y = true then 1 else 0 := rfl
  unfold longcaseref02_Length.f
  by_cases h1 : m < 1
  · rw [if_pos h1, len_out y m (.inl h1)]
    simp [longcaseref02_Length.j0]
  · rw [if_neg h1]
    by_cases h2 : 12 < m
    · rw [len_out y m (.inr h2)]
      simp [longcaseref02_Length.j0, h2]
    · have hd : decide (m > 12) = false := by simp; omega
      rw [hd]
      simp only [longcaseref02_Length.j0, rleap_f, Option.bind_some]
      rw [if_neg (by simp)]
      have hm : m = 1 ∨ m = 2 ∨ m = 3 ∨ m = 4 ∨ m = 5 ∨ m = 6 ∨ m = 7 ∨ m = 8 ∨ m = 9 ∨ m = 10 ∨ m = 11 ∨ m = 12 := by omega
      rcases hm with h | h | h | h | h | h | h | h | h | h | h | h <;> subst h <;> simp [len, hl]
      split <;> rfl
theorem rright_f (k : Nat) (y m d : Int) : longcaseref02_Right.f (k + 1) y m d = some (rightB y m d) := by
  unfold longcaseref02_Right.f
  rw [rlen_f]
  simp only [Option.bind_some]
  have hr : ∀ b : Bool, (b = true ↔ (1 ≤ m ∧ m ≤ 12 ∧ 1 ≤ d ∧ d ≤ len y m ∧ -2147483648 ≤ y ∧ y ≤ 2147483647)) → some b = some (rightB y m d) := by
    intro b hb
    congr 1
    rw [Bool.eq_iff_iff, hb]
    exact ⟨fun h => right_mk ⟨h.2.2.1, h.2.2.2.1, h.2.2.2.2.1, h.2.2.2.2.2⟩, fun h => right_m h⟩
  repeat' split
  all_goals apply hr
  all_goals simp
  all_goals omega
theorem ryd_l (y m : Int) (hm : m ≤ 13) (d : Nat) : ∀ (k : Nat) (n i : Int), 1 ≤ i → i ≤ m → m - i = d → d + 1 < k → 0 ≤ n → n + (cum y m - cum y i) ≤ 100000 →
    longcaseref02_Yearday.l0 k y m n i = some (n + (cum y m - cum y i)) := by
  induction d with
  | zero =>
    intro k n i h1 h2 h3 hk h0 hb
    obtain ⟨k, rfl⟩ : ∃ j, k = j + 1 := ⟨k - 1, by omega⟩
    have : i = m := by omega
    subst this
    simp only [longcaseref02_Yearday.l0]
    rw [if_neg (by omega)]
    congr 1; omega
  | succ d ih =>
    intro k n i h1 h2 h3 hk h0 hb
    obtain ⟨k, rfl⟩ : ∃ j, k = j + 1 := ⟨k - 1, by omega⟩
    have hs := cum_succ y i h1 (by omega)
    have hl := len_pos y i h1 (by omega)
    have hm2 := cum_le y (i + 1) d (by omega) (by omega)
    have e : i + 1 + (d : Int) = m := by omega
    rw [e] at hm2
    simp only [longcaseref02_Yearday.l0]
    obtain ⟨k, rfl⟩ : ∃ j, k = j + 1 := ⟨k - 1, by omega⟩
    rw [if_pos (by omega), rlen_f]
    simp only [Option.bind_some]
    rw [w64 (by omega) (by omega), w64 (by omega) (by omega), ih (k + 1) (n + len y i) (i + 1) (by omega) (by omega) (by omega) (by omega) (by omega) (by omega)]
    congr 1; omega
theorem cum_bd (y m : Int) (h1 : 1 ≤ m) (h2 : m ≤ 13) : 0 ≤ cum y m ∧ cum y m ≤ 366 := by
  have a := cum_nn y m h1 h2
  have b := cum_le y m (13 - m).toNat h1 (by omega)
  have e : m + ((13 - m).toNat : Int) = 13 := by omega
  rw [e, cum_13] at b
  have := lp_01 y
  omega
theorem ryd_f (k : Nat) (hk : 20 ≤ k) (y m d : Int) (h1 : 1 ≤ m) (h2 : m ≤ 12) (h3 : 1 ≤ d) (h4 : d ≤ 31) : longcaseref02_Yearday.f k y m d = some (cum y m + d - 1) := by
  have hb := cum_bd y m h1 (by omega)
  unfold longcaseref02_Yearday.f
  rw [w64 (by omega) (by omega), ryd_l y m (by omega) (m - 1).toNat k (d - 1) 1 (by omega) (by omega) (by omega) (by omega) (by omega) (by rw [cum_1]; omega), cum_1]
  congr 1; omega
theorem rdays_l (y m d : Int) (r : Int) (hr : r ≤ 400) (h1 : 1 ≤ m) (h2 : m ≤ 12) (h3 : 1 ≤ d) (h4 : d ≤ 31) (f : Nat) : ∀ (k : Nat) (n i : Int), 0 ≤ i → i ≤ r → r - i = f → f + 22 < k → -1000000000000 ≤ n → n + (J r - J i) ≤ 1000000000000 →
    longcaseref02_Days.l0 k y m d r n i = some (n + (J r - J i) + (cum y m + d - 1)) := by
  have hb := cum_bd y m h1 (by omega)
  induction f with
  | zero =>
    intro k n i h5 h6 h7 hk h0 hb2
    obtain ⟨k, rfl⟩ : ∃ j, k = j + 1 := ⟨k - 1, by omega⟩
    have : i = r := by omega
    subst this
    simp only [longcaseref02_Days.l0]
    rw [if_neg (by omega), ryd_f k (by omega) y m d h1 h2 h3 h4]
    simp only [Option.bind_some]
    rw [w64 (by omega) (by omega)]
    congr 1; omega
  | succ f ih =>
    intro k n i h5 h6 h7 hk h0 hb2
    obtain ⟨k, rfl⟩ : ∃ j, k = j + 1 := ⟨k - 1, by omega⟩
    have hs := J_succ i
    have hl : lp i = if leapB i = true then 1 else 0 := rfl
    have hj := J_lt (show i < r by omega)
    have hl1 := lp_01 i
    simp only [longcaseref02_Days.l0]
    obtain ⟨k, rfl⟩ : ∃ j, k = j + 1 := ⟨k - 1, by omega⟩
    rw [if_pos (by omega), rleap_f]
    simp only [Option.bind_some]
    split
    · rename_i hc
      rw [if_pos hc] at hl
      rw [w64 (n := n + 365) (by omega) (by omega), w64 (by omega) (by omega), w64 (by omega) (by omega), ih (k + 1) (n + 365 + 1) (i + 1) (by omega) (by omega) (by omega) (by omega) (by omega) (by omega)]
      congr 1; omega
    · rename_i hc
      rw [if_neg hc] at hl
      rw [w64 (n := n + 365) (by omega) (by omega), w64 (by omega) (by omega), ih (k + 1) (n + 365) (i + 1) (by omega) (by omega) (by omega) (by omega) (by omega) (by omega)]
      congr 1; omega
theorem rdays_f (k : Nat) (hk : 500 ≤ k) (y m d : Int) (h : rightB y m d = true) : longcaseref02_Days.f k y m d = some (D y m d) := by
  have hr := right_m h
  have hl := len_pos y m hr.1 hr.2.1
  have hJ : J y = J (y % 400) + 146097 * (y / 400) := by
    rw [← J_shift]; congr 1; omega
  have b1 : J 0 = -719528 := by decide +kernel
  have b2 : J (y % 400) ≤ 146097 := by unfold J; omega
  have b3 : -719528 ≤ J (y % 400) := by unfold J; omega
  unfold longcaseref02_Days.f
  rw [rdiv_f _ _ (by omega) (by omega) (by omega) (by omega)]
  simp only [Option.bind_some]
  rw [w64 (n := y / 400 * 146097) (by omega) (by omega), w64 (by omega) (by omega)]
  rw [rdays_l y m d (y % 400) (by omega) hr.1 hr.2.1 hr.2.2.1 (by omega) (y % 400).toNat k _ 0 (by omega) (by omega) (by omega) (by omega) (by omega) (by omega)]
  congr 1
  unfold D
  omega
theorem rdate_l1 (y : Int) (m0 : Int) (hm0 : m0 ≤ 12) (left0 : Int) (hlo : cum y m0 ≤ left0) (hhi : left0 < cum y m0 + len y m0) (f : Nat) : ∀ (k : Nat) (left m : Int), 1 ≤ m → m ≤ m0 → m0 - m = f → f + 2 < k → left = left0 - cum y m →
    longcaseref02_Date.l1 k left y m = some (y, m0, left0 - cum y m0 + 1, true) := by
  induction f with
  | zero =>
    intro k left m h1 h2 h3 hk hl
    obtain ⟨k, rfl⟩ : ∃ j, k = j + 1 := ⟨k - 1, by omega⟩
    have : m = m0 := by omega
    subst this hl
    have hc := cum_bd y m h1 (by omega)
    have hp := len_pos y m h1 (by omega)
    simp only [longcaseref02_Date.l1]
    obtain ⟨k, rfl⟩ : ∃ j, k = j + 1 := ⟨k - 1, by omega⟩
    rw [rlen_f]
    simp only [Option.bind_some]
    rw [if_neg (by omega), w64 (by omega) (by omega)]
  | succ f ih =>
    intro k left m h1 h2 h3 hk hl
    obtain ⟨k, rfl⟩ : ∃ j, k = j + 1 := ⟨k - 1, by omega⟩
    subst hl
    have hs := cum_succ y m h1 (by omega)
    have hc := cum_bd y m h1 (by omega)
    have hc0 := cum_bd y m0 (by omega) (by omega)
    have hp := len_pos y m h1 (by omega)
    have hp0 := len_pos y m0 (by omega) (by omega)
    have hm := cum_mono y m m0 h1 (by omega) (by omega)
    simp only [longcaseref02_Date.l1]
    obtain ⟨k, rfl⟩ : ∃ j, k = j + 1 := ⟨k - 1, by omega⟩
    rw [rlen_f]
    simp only [Option.bind_some]
    rw [if_pos (by omega), w64 (by omega) (by omega), w64 (by omega) (by omega)]
    exact ih (k + 1) _ (m + 1) (by omega) (by omega) (by omega) (by omega) (by omega)
theorem rdate_l0 (q Y R : Int) (hY : 0 ≤ Y) (hY2 : Y ≤ 399) (hR : 0 ≤ R) (hR2 : R ≤ 146096) (hlo : J Y - J 0 ≤ R) (hhi : R < J (Y + 1) - J 0) (f : Nat) : ∀ (k : Nat) (left y : Int), 0 ≤ y → y ≤ Y → Y - y = f → f + 1 < k → left = R - (J y - J 0) →
    longcaseref02_Date.l0 k q y left = longcaseref02_Date.j2 (k - f - 1) q Y (R - (J Y - J 0)) := by
  induction f with
  | zero =>
    intro k left y h1 h2 h3 hk hl
    obtain ⟨k, rfl⟩ : ∃ j, k = j + 1 := ⟨k - 1, by omega⟩
    have : y = Y := by omega
    subst this hl
    have hs := J_succ y
    have hl : lp y = if leapB y = true then 1 else 0 := rfl
    simp only [longcaseref02_Date.l0, rleap_f, Option.bind_some, Nat.sub_zero, Nat.add_sub_cancel]
    split
    · rename_i hc
      rw [if_pos hc] at hl
      rw [if_pos (by omega)]
    · rename_i hc
      rw [if_neg hc] at hl
      rw [if_pos (by omega)]
  | succ f ih =>
    intro k left y h1 h2 h3 hk hl
    obtain ⟨k, rfl⟩ : ∃ j, k = j + 1 := ⟨k - 1, by omega⟩
    subst hl
    have hs := J_succ y
    have hl : lp y = if leapB y = true then 1 else 0 := rfl
    have hj := J_lt (show y < Y by omega)
    have hj0 : J 0 ≤ J y := by unfold J; omega
    have ek : k + 1 - (f + 1) - 1 = k - f - 1 := by omega
    rw [ek]
    simp only [longcaseref02_Date.l0, rleap_f, Option.bind_some]
    split
    · rename_i hc
      rw [if_pos hc] at hl
      rw [if_neg (by omega), w64 (by omega) (by omega), w64 (by omega) (by omega)]
      exact ih k _ (y + 1) (by omega) (by omega) (by omega) (by omega) (by omega)
    · rename_i hc
      rw [if_neg hc] at hl
      rw [if_neg (by omega), w64 (by omega) (by omega), w64 (by omega) (by omega)]
      exact ih k _ (y + 1) (by omega) (by omega) (by omega) (by omega) (by omega)
theorem rdate_f (k : Nat) (hk : 1000 ≤ k) (n : Int) :
    longcaseref02_Date.f k n = if dateB n = true then some (dyear (n + 719468), dmon (n + 719468), dday (n + 719468), true) else some (0, 0, 0, false) := by
  obtain ⟨k, rfl⟩ : ∃ j, k = j + 1 := ⟨k - 1, by omega⟩
  unfold longcaseref02_Date.f
  by_cases hlo : n < -800000000000
  · have hb : dateB n = false := by simp [dateB]; omega
    rw [if_pos hlo, hb]
    simp [longcaseref02_Date.j0]
  · rw [if_neg hlo]
    by_cases hhi : n > 800000000000
    · have hb : dateB n = false := by simp [dateB]; omega
      rw [hb]
      simp [longcaseref02_Date.j0, hhi]
    · have hd : decide (n > 800000000000) = false := by simpa using hhi
      rw [hd]
      simp only [longcaseref02_Date.j0]
      rw [if_neg (by simp), w64 (by omega) (by omega), rdiv_f _ _ (by omega) (by omega) (by omega) (by omega)]
      simp only [Option.bind_some]
      have hD := D_date (n + 719468)
      have e : n + 719468 - 719468 = n := by omega
      rw [e] at hD
      have hy := D_year ⟨hD.1, hD.2.1, hD.2.2.1, hD.2.2.2.1⟩
      have hc := cum_bd (dyear (n + 719468)) (dmon (n + 719468)) hD.1 (by omega)
      have hlen := len_pos (dyear (n + 719468)) (dmon (n + 719468)) hD.1 (by omega)
      have hDd : J (dyear (n + 719468)) + cum (dyear (n + 719468)) (dmon (n + 719468)) + dday (n + 719468) - 1 = n := hD.2.2.2.2
      rw [hD.2.2.2.2] at hy
      have hi := @date_in n
      generalize dyear (n + 719468) = y at *
      generalize dmon (n + 719468) = m at *
      generalize dday (n + 719468) = d at *
      have hq1 : -100000000 ≤ (n + 719528) / 146097 := by omega
      have hq2 : (n + 719528) / 146097 ≤ 100000000 := by omega
      have hq : n + 719528 = 146097 * ((n + 719528) / 146097) + (n + 719528) % 146097 := by omega
      have hr1 : 0 ≤ (n + 719528) % 146097 := by omega
      have hr2 : (n + 719528) % 146097 < 146097 := by omega
      generalize (n + 719528) / 146097 = q at *
      generalize (n + 719528) % 146097 = r at *
      have b0 : J 0 = -719528 := by decide +kernel
      have b4 : J 400 = -573431 := by decide +kernel
      have eJ : J y = J (y - 400 * q) + 146097 * q := by rw [← J_shift]; congr 1; omega
      have eJ1 : J (y + 1) = J (y - 400 * q + 1) + 146097 * q := by rw [← J_shift]; congr 1; omega
      have hY0 : 0 ≤ y - 400 * q := by
        by_cases h : y - 400 * q < 0
        · have := J_lt h; omega
        · omega
      have hY1 : y - 400 * q ≤ 399 := by
        by_cases h : 400 ≤ y - 400 * q
        · by_cases h2 : y - 400 * q = 400
          · rw [h2] at eJ; omega
          · have := J_lt (show 400 < y - 400 * q by omega)
            have := J_succ 400
            have := lp_01 400
            omega
        · omega
      rw [rdate_l0 q (y - 400 * q) r hY0 hY1 hr1 (by omega) (by omega) (by omega) (y - 400 * q).toNat k r 0 (by omega) (by omega) (by omega) (by omega) (by omega)]
      obtain ⟨j, hj⟩ : ∃ j, k - (y - 400 * q).toNat - 1 = j + 2 := ⟨k - (y - 400 * q).toNat - 1 - 2, by omega⟩
      rw [hj]
      simp only [longcaseref02_Date.j2]
      have ey : q * 400 + (y - 400 * q) = y := by omega
      rw [w64 (n := q * 400) (by omega) (by omega), ey, w64 (n := y) (by omega) (by omega)]
      have hleft : r - (J (y - 400 * q) - J 0) = cum y m + d - 1 := by omega
      rw [hleft]
      by_cases h1 : y < -2147483648
      · have hb : dateB n = false := by rw [Bool.eq_false_iff]; intro h; have := hi.1 h; omega
        rw [if_pos h1, hb]
        simp [longcaseref02_Date.j3]
      · rw [if_neg h1]
        by_cases h2 : y > 2147483647
        · have hb : dateB n = false := by rw [Bool.eq_false_iff]; intro h; have := hi.1 h; omega
          rw [hb]
          simp [longcaseref02_Date.j3, h2]
        · have hb : dateB n = true := hi.2 ⟨by omega, by omega⟩
          have hd2 : decide (y > 2147483647) = false := by simpa using h2
          rw [hb, hd2]
          simp only [longcaseref02_Date.j3]
          rw [if_neg (by simp), rdate_l1 y m (by omega) (cum y m + d - 1) (by omega) (by omega) (m - 1).toNat j _ 1 (by omega) (by omega) (by omega) (by omega) (by rw [cum_1]; omega)]
          simp only [if_true]
          congr 4
          omega
theorem rof_f (k : Nat) (hk : 1000 ≤ k) (t : Int) (h1 : -9223372036854775808 ≤ t) (h2 : t ≤ 9223372036854775807) :
    longcaseref03_Of.f k t = if oB t = true then some (oY t, oMo t, oD t, oH t, oMi t, oS t, true) else some (0, 0, 0, 0, 0, 0, false) := by
  unfold longcaseref03_Of.f
  rw [rdiv_f t 86400 (by omega) (by omega) h1 h2]
  simp only [Option.bind_some]
  rw [rdate_f k hk]
  unfold oB
  by_cases h : dateB (t / 86400) = true
  · rw [if_pos h, if_pos h]
    have q1 : 0 ≤ t % 86400 := by omega
    have q2 : t % 86400 < 86400 := by omega
    simp only [Option.bind_some, if_true]
    unfold oY oMo oD oH oMi oS
    generalize t % 86400 = s at *
    have e : s % 3600 / 60 = s / 60 % 60 := by omega
    rw [e]
    simp (disch := omega) only [w64, tdivn, tmodn]
  · rw [if_neg h, if_neg h]
    rfl
theorem rcright_f (k : Nat) (y m d H M S : Int) : longcaseref03_Right.f (k + 1) y m d H M S = some (cright y m d H M S) := by
  unfold longcaseref03_Right.f
  rw [rright_f]
  simp only [Option.bind_some, ge_iff_le]
  unfold cright
  by_cases h : rightB y m d = true
  · rw [if_pos h]
    by_cases a : 0 ≤ H
    · rw [if_pos a]
      by_cases b : H < 24
      · rw [if_pos b]
        by_cases c : 0 ≤ M
        · rw [if_pos c]
          by_cases e : M < 60
          · rw [if_pos e]
            by_cases f : 0 ≤ S
            · rw [if_pos f]
              simp [*]
            · rw [if_neg f]; simp [*]
          · rw [if_neg e]; simp [*]
        · rw [if_neg c]; simp [*]
      · rw [if_neg b]; simp [*]
    · rw [if_neg a]; simp [*]
  · rw [if_neg h]; simp [*]
theorem rsec_f (k : Nat) (hk : 500 ≤ k) {y m d H M S : Int} (h : cright y m d H M S = true) : longcaseref03_Seconds.f k y m d H M S = some (csec y m d H M S) := by
  unfold longcaseref03_Seconds.f
  rw [rdays_f k hk y m d (cright_iff.mp h).1]
  simp only [Option.bind_some]
  rw [sec_code h]
theorem E_f (b : Bool) (e : Int) : longcaseref02_E.f b e = some (if b = true then 0 else e) := by
  unfold longcaseref02_E.f
  cases b <;> rfl
theorem chr_f (n : Nat) : strOfNums [(wrap64 (48 + (Int.tmod (n : Int) 10))) % 256] = ⟨[UInt8.ofNat (48 + n % 10)].toArray⟩ := by
  rw [tmodn (by omega), w64 (by omega) (by omega)]
  have e : ((48 + (n : Int) % 10) % 256).toNat = 48 + n % 10 := by omega
  simp [strOfNums, e]
theorem digits_l (k : Nat) : ∀ (n : Nat) (x : Int) (l : List UInt8), n + x.toNat < k → -9000000000000 + (n : Int) ≤ x → x ≤ 1000 → n ≤ 4000000000 → l.length + n + x.toNat ≤ 9000000000000 →
    PPR.longcaseref03_digits.l0 k n x ⟨l.toArray⟩ = some ⟨(padZ x.toNat n ++ l).toArray⟩ := by
  induction k with
  | zero => intro n x l h; omega
  | succ k ih =>
    intro n x l hk h1 h2 h3 h4
    rw [PPR.longcaseref03_digits.l0]
    have go : (0 < n ∨ 0 < x) → PPR.longcaseref03_digits.l0 k (wrap64 (Int.tdiv n 10)) (wrap64 (x - 1)) (strOfNums [(wrap64 (48 + (Int.tmod (n : Int) 10))) % 256] ++ ⟨l.toArray⟩) = some ⟨(padZ x.toNat n ++ l).toArray⟩ := by
      intro h
      rw [chr_f, ByteArray.mk_append_mk, tdivn (by omega), w64 (n := (n : Int) / 10) (by omega) (by omega), w64 (n := x - 1) (by omega) (by omega)]
      have e : (n : Int) / 10 = ((n / 10 : Nat) : Int) := by omega
      rw [e, ih (n / 10) (x - 1) _ (by omega) (by omega) (by omega) (by omega) (by simp; omega), padZ_step x.toNat n (by omega)]
      have e2 : (x - 1).toNat = x.toNat - 1 := by omega
      rw [e2]
      simp
    have sz : (strOfNums [(wrap64 (48 + (Int.tmod (n : Int) 10))) % 256]).size + (ByteArray.mk l.toArray).size ≤ 9223372036854775807 := by
      rw [chr_f, szl, szl]
      simp
      omega
    simp only [Option.bind_some]
    by_cases c1 : (n : Int) > 0
    · rw [if_pos c1, if_pos sz, go (by omega)]
    · rw [if_neg c1]
      by_cases c2 : x > 0
      · rw [if_pos c2, if_pos sz, go (by omega)]
      · rw [if_neg c2]
        have e0 : n = 0 := by omega
        have e1 : x.toNat = 0 := by omega
        rw [e0, e1, padZ_00]
        rfl
theorem digits_f (k : Nat) (n w : Int) (hk : 5000000000 ≤ k) (h0 : 0 ≤ n) (h1 : n ≤ 4000000000) (w1 : 1 ≤ w) (w2 : w ≤ 1000) : PPR.longcaseref03_digits.f k n w = some ⟨(padN w.toNat n.toNat).toArray⟩ := by
  obtain ⟨j, rfl⟩ : ∃ j : Nat, n = j := ⟨n.toNat, by omega⟩
  unfold PPR.longcaseref03_digits.f
  have := digits_l k j w [] (by omega) (by omega) (by omega) (by omega) (by simp; omega)
  rw [padZ_pad _ _ (by omega), List.append_nil] at this
  exact this
set_option maxHeartbeats 1000000 in
theorem rtext_j (k : Nat) (hk : 5000000001 ≤ k) (s : List UInt8) (hs : s.length ≤ 1) (y y' m d H M S : Int) (a1 : 0 ≤ y) (a2 : y ≤ 2147483648) (b1 : 0 ≤ m) (b2 : m ≤ 99) (c1 : 0 ≤ d) (c2 : d ≤ 99) (d1 : 0 ≤ H) (d2 : H ≤ 99) (e1 : 0 ≤ M) (e2 : M ≤ 99) (f1 : 0 ≤ S) (f2 : S ≤ 99) :
    PPR.longcaseref03_Text.j0 k ⟨s.toArray⟩ y y' m d H M S = some ⟨(s ++ padN 4 y.toNat ++ [45] ++ padN 2 m.toNat ++ [45] ++ padN 2 d.toNat ++ [32] ++ padN 2 H.toNat ++ [58] ++ padN 2 M.toNat ++ [58] ++ padN 2 S.toNat).toArray⟩ := by
  obtain ⟨j, rfl⟩ : ∃ j, k = j + 1 := ⟨k - 1, by omega⟩
  rw [PPR.longcaseref03_Text.j0]
  have t4 : (4 : Int).toNat = 4 := rfl
  have t2 : (2 : Int).toNat = 2 := rfl
  rw [digits_f j y 4 (by omega) (by omega) (by omega) (by omega) (by omega), digits_f j m 2 (by omega) (by omega) (by omega) (by omega) (by omega), digits_f j d 2 (by omega) (by omega) (by omega) (by omega) (by omega), digits_f j H 2 (by omega) (by omega) (by omega) (by omega) (by omega), digits_f j M 2 (by omega) (by omega) (by omega) (by omega) (by omega), digits_f j S 2 (by omega) (by omega) (by omega) (by omega) (by omega), t4, t2]
  have l4 := (pad_len 4 y.toNat (by omega)).2
  have lm := (pad_len 2 m.toNat (by omega)).2
  have ld := (pad_len 2 d.toNat (by omega)).2
  have lH := (pad_len 2 H.toNat (by omega)).2
  have lM := (pad_len 2 M.toNat (by omega)).2
  have lS := (pad_len 2 S.toNat (by omega)).2
  generalize padN 4 y.toNat = p4 at *
  generalize padN 2 m.toNat = pm at *
  generalize padN 2 d.toNat = pd at *
  generalize padN 2 H.toNat = pH at *
  generalize padN 2 M.toNat = pM at *
  generalize padN 2 S.toNat = pS at *
  simp only [Option.bind_some, ByteArray.mk_append_mk, szl, List.length_append, List.length_singleton]
  repeat rw [if_pos (by omega)]
theorem rtext_f (k : Nat) (hk : 5000000001 ≤ k) {y m d H M S : Int} (h : cright y m d H M S = true) : PPR.longcaseref03_Text.f k y m d H M S = some ⟨(textL y m d H M S).toArray⟩ := by
  obtain ⟨hr, h1, h2, h3, h4, h5, h6⟩ := cright_iff.mp h
  obtain ⟨r1, r2, r3, r4, r5, r6⟩ := right_m hr
  have hl := len_pos y m r1 r2
  unfold PPR.longcaseref03_Text.f textL sgn
  by_cases hy : y < 0
  · rw [if_pos hy, if_pos hy, w64 (by omega) (by omega), mk1, rtext_j k hk [45] (by decide) (-y) y m d H M S (by omega) (by omega) (by omega) (by omega) (by omega) (by omega) (by omega) (by omega) (by omega) (by omega) (by omega) (by omega)]
    have e : (-y).toNat = y.natAbs := by omega
    rw [e]
  · rw [if_neg hy, if_neg hy]
    have := rtext_j k hk [] (by decide) y y m d H M S (by omega) (by omega) (by omega) (by omega) (by omega) (by omega) (by omega) (by omega) (by omega) (by omega) (by omega) (by omega)
    have e : y.toNat = y.natAbs := by omega
    rw [e] at this
    exact this
end Go.Proofs.YtpmcmkobpjobbaaDoor
