/- The plain laws of civil dates: what the statements' functions come to is true, for every input. -/
import Derived.Test.YtmkmopphdkgjeaaDoorFacts
import Derived.OpenShut
namespace Go.Proofs.YtmkmopphdkgjeaaDoor.Pure
open Go.RowKit Hand PCiv Cv
theorem date_no (n : Int) (h1 : -9223372036854775808 ≤ n) (h2 : n ≤ 9223372036854775807) (h : dateB n = false) : civil_Date.f n = some (0, 0, 0, 2) := by
  rw [date_f n h1 h2, h]; rfl
theorem dateB_bd {n : Int} (h : dateB n = true) : -784353015833 ≤ n ∧ n ≤ 784351576776 := by
  simpa [dateB] using h
theorem date_yes (n : Int) (h : dateB n = true) : ∃ y m d, civil_Date.f n = some (y, m, d, 0) ∧ rightB y m d = true ∧ D y m d = n := by
  have hb := dateB_bd h
  have hD := D_date (n + 719468)
  have hi := (@date_in n).1 h
  refine ⟨dyear (n + 719468), dmon (n + 719468), dday (n + 719468), ?_, right_mk ⟨hD.2.2.1, hD.2.2.2.1, hi.1, hi.2⟩, ?_⟩
  · rw [date_f n (by omega) (by omega), h]; rfl
  · rw [hD.2.2.2.2]; omega
theorem date_D {y m d : Int} (h : rightB y m d = true) : dateB (D y m d) = true ∧ civil_Date.f (D y m d) = some (y, m, d, 0) := by
  have hr := right_m h
  have hD := D_date (D y m d + 719468)
  have hi := D_inj ⟨hr.1, hr.2.1, hr.2.2.1, hr.2.2.2.1⟩ ⟨hD.1, hD.2.1, hD.2.2.1, hD.2.2.2.1⟩ (by rw [hD.2.2.2.2]; omega)
  have hb : dateB (D y m d) = true := by rw [date_in, ← hi.1]; omega
  have bd := dateB_bd hb
  refine ⟨hb, ?_⟩
  rw [date_f _ (by omega) (by omega), hb, ← hi.1, ← hi.2.1, ← hi.2.2]
  rfl
theorem E_f (b : Bool) (e : Int) : longcaseref02_E.f b e = some (if b = true then 0 else e) := by
  unfold longcaseref02_E.f; split <;> rfl

theorem tells_j1 (k : Nat) (hk : 1001 ≤ k) (n : Int) (h1 : -9223372036854775808 ≤ n) (h2 : n ≤ 9223372036854775807) : longcaselaw02_CivilTells.j1 k n true false = some true := by
  obtain ⟨k, rfl⟩ : ∃ j, k = j + 1 := ⟨k - 1, by omega⟩
  simp only [longcaselaw02_CivilTells.j1]
  rw [date_f n h1 h2, rdate_f k (by omega), weekday_f n h1 h2, rweekday_f n h1 h2]
  by_cases h : dateB n = true
  · simp [h, E_f]
  · simp [h, E_f]
theorem tells_j0 (k : Nat) (hk : 1002 ≤ k) (y m d n : Int) (h1 : -9223372036854775808 ≤ n) (h2 : n ≤ 9223372036854775807) (a b c e : Int)
    (hd : civil_Days.f y m d = some (a, b)) (hy : civil_Yearday.f y m d = some (c, e)) :
    longcaselaw02_CivilTells.j0 k y m d n true (rightB y m d) a b c e false = some true := by
  obtain ⟨k, rfl⟩ : ∃ j, k = j + 1 := ⟨k - 1, by omega⟩
  have hj := tells_j1 k (by omega) n h1 h2
  simp only [longcaselaw02_CivilTells.j0]
  by_cases h : rightB y m d = true
  · have hr := right_m h
    have hl := len_pos y m hr.1 hr.2.1
    rw [days_yes y m d h] at hd
    rw [yd_yes y m d h] at hy
    simp only [Option.some.injEq, Prod.mk.injEq] at hd hy
    obtain ⟨rfl, rfl⟩ := hd
    obtain ⟨rfl, rfl⟩ := hy
    rw [h, rdays_f k (by omega) y m d h, ryd_f k (by omega) y m d hr.1 hr.2.1 hr.2.2.1 (by omega)]
    simp [hj]
  · rw [Bool.not_eq_true] at h
    rw [days_no y m d h] at hd
    rw [yd_no y m d h] at hy
    simp only [Option.some.injEq, Prod.mk.injEq] at hd hy
    obtain ⟨rfl, rfl⟩ := hd
    obtain ⟨rfl, rfl⟩ := hy
    rw [h]
    simp [hj]
theorem days_some (y m d : Int) : ∃ a b, civil_Days.f y m d = some (a, b) := by
  cases h : rightB y m d
  · exact ⟨_, _, days_no y m d h⟩
  · exact ⟨_, _, days_yes y m d h⟩
theorem yd_some (y m d : Int) : ∃ a b, civil_Yearday.f y m d = some (a, b) := by
  cases h : rightB y m d
  · exact ⟨_, _, yd_no y m d h⟩
  · exact ⟨_, _, yd_yes y m d h⟩
theorem CivilTells : longcaselaw02_CivilTells.Pure := by
  intro y m d n _ _ _ hn
  have hb := bounds_i64 hn
  refine ⟨2000, ?_⟩
  obtain ⟨a, b, hd⟩ := days_some y m d
  obtain ⟨c, e, hy⟩ := yd_some y m d
  have hj := tells_j0 2000 (by omega) y m d n hb.1 hb.2 a b c e hd hy
  unfold longcaselaw02_CivilTells.f
  rw [shown_f, rright_f 1999, hd, hy, right_f, leap_f, rleap_f, rlen_f 1999]
  simp [civil_Length.f, hj]

theorem back_j0 (k : Nat) (y m d : Int) : longcaselaw02_CivilBack.j0 (k + 1) y m d true = some true := by
  simp only [longcaselaw02_CivilBack.j0]
  rw [right_f]
  cases h : rightB y m d
  · simp
  · rw [days_yes y m d h]
    simp [(date_D h).2]
theorem CivilBack : longcaselaw02_CivilBack.Pure := by
  intro n y m d hn _ _ _
  have hb := bounds_i64 hn
  refine ⟨1, ?_⟩
  unfold longcaselaw02_CivilBack.f
  rw [shown_f]
  cases h : dateB n
  · rw [date_no n hb.1 hb.2 h]
    simp [back_j0 0]
  · obtain ⟨y1, m1, d1, h1, h2, h3⟩ := date_yes n h
    rw [h1]
    simp [days_yes _ _ _ h2, right_f, h2, h3, back_j0 0]

theorem wk_next (n : Int) : ((n + 1) % 7 + 4) % 7 = ((n % 7 + 4) % 7 + 1) % 7 := by omega
theorem CivilNext : longcaselaw02_CivilNext.Pure := by
  intro n hn
  have hb := bounds_i64 hn
  refine ⟨2, ?_⟩
  unfold longcaselaw02_CivilNext.f
  rw [shown_f]
  cases h : dateB n
  · rw [date_no n hb.1 hb.2 h]
    simp [longcaselaw02_CivilNext.j0]
  · obtain ⟨y, m, d, h1, h2, h3⟩ := date_yes n h
    have bd := dateB_bd h
    have hr := right_m h2
    rw [h1]
    simp only [Option.bind_some, if_true]
    by_cases hl : y = 2147483647 ∧ m = 12
    · obtain ⟨rfl, rfl⟩ := hl
      simp [longcaselaw02_CivilNext.j0]
    · have hj : longcaselaw02_CivilNext.j0 2 n true y m d false = some true := by
        -- the day behind
        obtain ⟨y', m', d', r', e'⟩ : ∃ y' m' d', rightB y' m' d' = true ∧ D y' m' d' = n + 1 ∧ ((d < len y m ∧ y' = y ∧ m' = m ∧ d' = d + 1) ∨ (d = len y m ∧ m < 12 ∧ y' = y ∧ m' = m + 1 ∧ d' = 1) ∨ (d = len y m ∧ m = 12 ∧ y' = y + 1 ∧ m' = 1 ∧ d' = 1)) := by
          by_cases hd : d < len y m
          · exact ⟨y, m, d + 1, right_mk (by omega), by unfold D at h3 ⊢; omega, .inl ⟨hd, rfl, rfl, rfl⟩⟩
          · have hs := cum_succ y m hr.1 hr.2.1
            by_cases hm : m < 12
            · have hp := len_pos y (m + 1) (by omega) (by omega)
              exact ⟨y, m + 1, 1, right_mk (by omega), by unfold D at h3 ⊢; omega, .inr (.inl ⟨by omega, hm, rfl, rfl, rfl⟩)⟩
            · have hm12 : m = 12 := by omega
              subst hm12
              have hp := len_pos (y + 1) 1 (by omega) (by omega)
              have h13 := cum_13 y
              have hJ := J_succ y
              have c1 := cum_1 (y + 1)
              have e13 : (12 : Int) + 1 = 13 := by omega
              rw [e13] at hs
              have hy : y ≠ 2147483647 := fun hc => hl ⟨hc, rfl⟩
              exact ⟨y + 1, 1, 1, right_mk (by omega), by unfold D at h3 ⊢; omega, .inr (.inr ⟨by omega, rfl, rfl, rfl, rfl⟩)⟩
        have hD := (date_D r').2
        rw [e'.1] at hD
        have hr' := right_m r'
        have hp' := len_pos y' m' hr'.1 hr'.2.1
        simp only [longcaselaw02_CivilNext.j0]
        rw [w64 (by omega) (by omega), hD, weekday_f _ (by omega) (by omega), weekday_f _ (by omega) (by omega)]
        simp only [Option.bind_some, if_true]
        rw [w64 (n := (n % 7 + 4) % 7 + 1) (by omega) (by omega), tmodn (by omega), wk_next]
        simp only [bne_self_eq_false, longcaselaw02_CivilNext.j1, civil_Length.f, Option.bind_some]
        have hp := len_pos y m hr.1 hr.2.1
        rcases e'.2 with ⟨g1, rfl, rfl, rfl⟩ | ⟨g1, g2, rfl, rfl, rfl⟩ | ⟨g1, g2, rfl, rfl, rfl⟩
        · rw [w64 (n := d + 1) (by omega) (by omega)]
          simp [g1]
        · rw [w64 (n := m + 1) (by omega) (by omega)]
          have : ¬ d < len y' m := by omega
          simp [this, g2]
        · rw [w64 (n := y + 1) (by omega) (by omega)]
          have : ¬ d < len y m := by omega
          have : ¬ m < 12 := by omega
          simp [*]
      by_cases hy : y = 2147483647
      · have hm : (m == 12) = false := by simp; exact fun hc => hl ⟨hy, hc⟩
        rw [if_pos hy, hm]
        exact hj
      · rw [if_neg hy]
        exact hj
theorem D_dec (y : Int) : D y 12 31 = J (y + 1) - 1 := by
  have h := cum_succ y 12 (by omega) (by omega)
  have h13 := cum_13 y
  have e : (12 : Int) + 1 = 13 := by omega
  rw [e] at h
  have hl : len y 12 = 31 := by simp [len]
  have hJ := J_succ y
  unfold D
  omega
theorem right_dec (y : Int) (h1 : -2147483648 ≤ y) (h2 : y ≤ 2147483647) : rightB y 12 31 = true := by
  have hl : len y 12 = 31 := by simp [len]
  exact right_mk (by omega)
theorem years_l0 (y : Int) (a b c w : Int) (h1 : wrap64 (b - a) = w) (h2 : wrap64 (c - a) = 146097) (h3 : 0 ≤ w) (h5 : w ≤ 400) (hw : w = 365 + lp y) (f : Nat) : ∀ (k : Nat) (m s : Int), 1 ≤ m → m ≤ 13 → 13 - m = f → f < k → s = cum y m →
    longcaselaw02_CivilYears.l0 k true y a 0 b 0 c 0 (w - 1) 0 w s m = some true := by
  induction f with
  | zero =>
    intro k m s g1 g2 g3 hk hs
    obtain ⟨k, rfl⟩ : ∃ j, k = j + 1 := ⟨k - 1, by omega⟩
    obtain rfl : m = 13 := by omega
    subst hs
    have h13 := cum_13 y
    have hl : lp y = if leapB y = true then 1 else 0 := rfl
    simp only [longcaselaw02_CivilYears.l0]
    rw [if_neg (by omega), w64 (n := w - 1) (by omega) (by omega), h1, h2, leap_f]
    simp only [if_true, Option.bind_some]
    rw [if_pos (by omega)]
    congr 1
    rw [beq_iff_eq, Bool.eq_iff_iff, beq_iff_eq]
    split at hl
    · rename_i hc; simp only [hc, true_iff]; omega
    · rename_i hc; simp only [hc]; simp; omega
  | succ f ih =>
    intro k m s g1 g2 g3 hk hs
    obtain ⟨k, rfl⟩ : ∃ j, k = j + 1 := ⟨k - 1, by omega⟩
    subst hs
    have hs := cum_succ y m g1 (by omega)
    have hb := cum_bd y m g1 (by omega)
    have hp := len_pos y m g1 (by omega)
    simp only [longcaselaw02_CivilYears.l0]
    rw [if_pos (by omega)]
    simp only [civil_Length.f, Option.bind_some]
    rw [w64 (by omega) (by omega), w64 (by omega) (by omega)]
    exact ih k (m + 1) _ (by omega) (by omega) (by omega) (by omega) hs.symm
theorem CivilYears : longcaselaw02_CivilYears.Pure := by
  intro y hy
  have hb := bounds_i32 hy
  refine ⟨20, ?_⟩
  unfold longcaselaw02_CivilYears.f
  rw [shown_f, w64 (n := y) (by omega) (by omega)]
  simp only [Option.bind_some]
  by_cases hbig : y > 2147483247
  · rw [if_pos hbig]
  · rw [if_neg hbig, w64 (n := y + 1) (by omega) (by omega), w64 (n := y + 400) (by omega) (by omega)]
    have r0 := right_jan y (by omega) (by omega)
    have r1 := right_jan (y + 1) (by omega) (by omega)
    have r4 := right_jan (y + 400) (by omega) (by omega)
    have rd := right_dec y (by omega) (by omega)
    rw [days_yes _ _ _ r0, days_yes _ _ _ r1, days_yes _ _ _ r4, yd_yes _ _ _ rd]
    simp only [Option.bind_some, D_jan]
    have hJ := J_succ y
    have hE := J_era y
    have hl1 := lp_01 y
    have hbd := D_bd r0
    rw [D_jan] at hbd
    have hcd := D_dec y
    unfold D at hcd
    have key : longcaselaw02_CivilYears.l0 18 true y (J y) 0 (J (y + 1)) 0 (J (y + 400)) 0 (365 + lp y - 1) 0 (365 + lp y) 0 1 = some true :=
      years_l0 y (J y) (J (y + 1)) (J (y + 400)) (365 + lp y) (by rw [w64 (by omega) (by omega)]; omega) (by rw [w64 (by omega) (by omega)]; omega) (by omega) (by omega) rfl 12 18 1 0 (by omega) (by omega) (by omega) (by omega) (cum_1 y).symm
    have hcum : cum y 12 + 31 - 1 = 365 + lp y - 1 := by omega
    rw [hcum]
    have hlb := leapB_iff y
    have hl : lp y = if leapB y = true then 1 else 0 := rfl
    have yes : leapB y = true → longcaselaw02_CivilYears.j0 20 true y (J y) 0 (J (y + 1)) 0 (J (y + 400)) 0 (365 + lp y - 1) 0 365 true = some true := by
      intro h
      rw [if_pos h] at hl
      rw [hl] at key ⊢
      simpa [longcaselaw02_CivilYears.j0, longcaselaw02_CivilYears.j1] using key
    have no : leapB y = false → longcaselaw02_CivilYears.j0 20 true y (J y) 0 (J (y + 1)) 0 (J (y + 400)) 0 (365 + lp y - 1) 0 365 false = some true := by
      intro h
      rw [h, if_neg (by simp)] at hl
      rw [hl] at key ⊢
      simpa [longcaselaw02_CivilYears.j0, longcaselaw02_CivilYears.j1] using key
    have t4 := tmod0 y 4
    have t100 := tmod0 y 100
    have t400 := tmod0 y 400
    split
    · split
      · cases h4 : (y.tmod 400 == 0)
        · apply no
          rw [Bool.eq_false_iff]
          intro hc
          have := hlb.1 hc
          simp at h4
          omega
        · apply yes
          simp at h4
          exact hlb.2 (by omega)
      · apply yes
        exact hlb.2 (by omega)
    · have h4 : (y.tmod 400 == 0) = false := by simp; omega
      rw [h4]
      apply no
      rw [Bool.eq_false_iff]
      intro hc
      have := hlb.1 hc
      omega

theorem dateOk (n : Int) (h1 : -9223372036854775808 ≤ n) (h2 : n ≤ 9223372036854775807) : ∃ a b c e, civil_Date.f n = some (a, b, c, e) ∧ (e == 0) = dateB n := by
  cases h : dateB n
  · exact ⟨_, _, _, _, date_no n h1 h2 h, rfl⟩
  · obtain ⟨y, m, d, h3, _, _⟩ := date_yes n h
    exact ⟨_, _, _, _, h3, rfl⟩
theorem CivilEnds : longcaselaw02_CivilEnds.Pure := by
  intro n hn
  have hb := bounds_i64 hn
  unfold longcaselaw02_CivilEnds.f
  have ht := tdm n 1000000 (by omega)
  generalize n.tmod 1000000 = t at *
  have r0 := right_jan (-2147483648) (by omega) (by omega)
  have r1 := right_dec 2147483647 (by omega) (by omega)
  rw [shown_f, days_yes _ _ _ r0, days_yes _ _ _ r1]
  simp only [Option.bind_some, D_jan, D_dec]
  have e : (2147483647 : Int) + 1 = 2147483648 := by omega
  rw [e, J_lo, J_hi, w64 (by omega) (by omega), w64 (by omega) (by omega)]
  obtain ⟨a, b, c, x, h1, h2⟩ := dateOk (-784353015833 + t) (by omega) (by omega)
  obtain ⟨a', b', c', x', h1', h2'⟩ := dateOk (784351576777 - 1 + t) (by omega) (by omega)
  rw [h1, h1']
  simp only [Option.bind_some, if_true]
  rw [h2, h2']
  have q1 : (dateB (-784353015833 + t) == decide (t ≥ 0)) = true := by
    rw [beq_iff_eq, Bool.eq_iff_iff]; simp [dateB]; omega
  have q2 : (dateB (784351576777 - 1 + t) == decide (t ≤ 0)) = true := by
    rw [beq_iff_eq, Bool.eq_iff_iff]; simp [dateB]; omega
  rw [q1, q2]; rfl

theorem CivilLeaps : longcaselaw02_CivilLeaps.Pure := by
  intro y hy
  have hb := bounds_i32 hy
  have hl : lp y = if leapB y = true then 1 else 0 := rfl
  have h2 : len y 2 = 28 + lp y := by simp [len]
  have h3 : len y 3 = 31 := by simp [len]
  have c2 : cum y 2 = 31 := by simp [cum]
  have c3 : cum y 3 = lp y + 59 := by simp [cum]
  have hl1 := lp_01 y
  have r28 : rightB y 2 28 = true := right_mk (by omega)
  have r31 : rightB y 3 1 = true := right_mk (by omega)
  have bd := D_bd r28
  have hd : D y 3 1 - D y 2 28 = 1 + lp y := by unfold D; omega
  unfold longcaselaw02_CivilLeaps.f
  rw [shown_f, w64 (n := y) (by omega) (by omega), days_yes _ _ _ r28, days_yes _ _ _ r31, leap_f, right_f]
  simp only [Option.bind_some, if_true, civil_Length.f]
  rw [w64 (n := D y 3 1 - D y 2 28) (by omega) (by omega), hd, h2]
  cases h : leapB y
  · have e : lp y = 0 := by rw [h] at hl; exact hl
    have r29 : rightB y 2 29 = false := by rw [Bool.eq_false_iff]; intro hc; have := right_m hc; omega
    rw [days_no _ _ _ r29, r29, e]
    rfl
  · have e : lp y = 1 := by rw [h] at hl; exact hl
    have r29 : rightB y 2 29 = true := right_mk (by omega)
    rw [days_yes _ _ _ r29, r29, e]
    rfl
theorem weeks_step (k : Nat) (x s i : Int) (h1 : -9223372036854775000 ≤ x) (h2 : x ≤ 9223372036854775000) (h0 : 0 ≤ i) (h7 : i < 7) :
    longcaselaw02_CivilWeeks.l0 (k + 1) x true s i = longcaselaw02_CivilWeeks.l0 k x true (Go.bits .or .i64 s (Go.Proofs.YtmkmopphdkgjeaaDoorW.PrintWords.shl .i64 1 (IntKind.u64.wrap (((x + i) % 7 + 4) % 7)))) (i + 1) := by
  have hw : 0 ≤ ((x + i) % 7 + 4) % 7 ∧ ((x + i) % 7 + 4) % 7 ≤ 6 := by omega
  have e7 : (x + i + 7) % 7 = (x + i) % 7 := by omega
  simp only [longcaselaw02_CivilWeeks.l0]
  rw [if_pos h7, w64 (n := x + i) (by omega) (by omega), w64 (n := x + i + 7) (by omega) (by omega), w64 (n := i + 1) (by omega) (by omega), weekday_f _ (by omega) (by omega), weekday_f _ (by omega) (by omega), e7]
  simp only [Option.bind_some]
  generalize ((x + i) % 7 + 4) % 7 = w at *
  rw [if_neg (by omega), if_neg (by omega)]
  simp only [if_true]
  have hu : 0 ≤ IntKind.u64.wrap w := by
    have hc : w = 0 ∨ w = 1 ∨ w = 2 ∨ w = 3 ∨ w = 4 ∨ w = 5 ∨ w = 6 := by omega
    rcases hc with h | h | h | h | h | h | h <;> subst h <;> decide
  rw [if_pos hu]
theorem CivilWeeks : longcaselaw02_CivilWeeks.Pure := by
  intro n hn
  have hb := bounds_i64 hn
  refine ⟨8, ?_⟩
  unfold longcaselaw02_CivilWeeks.f
  rw [shown_f]
  simp only [Option.bind_some]
  have b1 : -9223372036854775000 ≤ n / 2 := by omega
  have b2 : n / 2 ≤ 9223372036854775000 := by omega
  generalize n / 2 = x at *
  have st : ∀ (k : Nat) (s i : Int), 0 ≤ i → i < 7 → _ := fun k s i h h' => weeks_step k x s i b1 b2 h h'
  have hr : x % 7 = 0 ∨ x % 7 = 1 ∨ x % 7 = 2 ∨ x % 7 = 3 ∨ x % 7 = 4 ∨ x % 7 = 5 ∨ x % 7 = 6 := by omega
  rw [st 7 _ 0 (by omega) (by omega), st 6 _ (0 + 1) (by omega) (by omega), st 5 _ (0 + 1 + 1) (by omega) (by omega), st 4 _ (0 + 1 + 1 + 1) (by omega) (by omega),
    st 3 _ (0 + 1 + 1 + 1 + 1) (by omega) (by omega), st 2 _ (0 + 1 + 1 + 1 + 1 + 1) (by omega) (by omega), st 1 _ (0 + 1 + 1 + 1 + 1 + 1 + 1) (by omega) (by omega)]
  rcases hr with h | h | h | h | h | h | h
  · rw [show ((x + 0) % 7 + 4) % 7 = 4 by omega, show ((x + (0 + 1)) % 7 + 4) % 7 = 5 by omega, show ((x + (0 + 1 + 1)) % 7 + 4) % 7 = 6 by omega, show ((x + (0 + 1 + 1 + 1)) % 7 + 4) % 7 = 0 by omega, show ((x + (0 + 1 + 1 + 1 + 1)) % 7 + 4) % 7 = 1 by omega, show ((x + (0 + 1 + 1 + 1 + 1 + 1)) % 7 + 4) % 7 = 2 by omega, show ((x + (0 + 1 + 1 + 1 + 1 + 1 + 1)) % 7 + 4) % 7 = 3 by omega]
    simp only [longcaselaw02_CivilWeeks.l0]
    rw [if_neg (by decide), if_pos trivial]
    decide +kernel
  · rw [show ((x + 0) % 7 + 4) % 7 = 5 by omega, show ((x + (0 + 1)) % 7 + 4) % 7 = 6 by omega, show ((x + (0 + 1 + 1)) % 7 + 4) % 7 = 0 by omega, show ((x + (0 + 1 + 1 + 1)) % 7 + 4) % 7 = 1 by omega, show ((x + (0 + 1 + 1 + 1 + 1)) % 7 + 4) % 7 = 2 by omega, show ((x + (0 + 1 + 1 + 1 + 1 + 1)) % 7 + 4) % 7 = 3 by omega, show ((x + (0 + 1 + 1 + 1 + 1 + 1 + 1)) % 7 + 4) % 7 = 4 by omega]
    simp only [longcaselaw02_CivilWeeks.l0]
    rw [if_neg (by decide), if_pos trivial]
    decide +kernel
  · rw [show ((x + 0) % 7 + 4) % 7 = 6 by omega, show ((x + (0 + 1)) % 7 + 4) % 7 = 0 by omega, show ((x + (0 + 1 + 1)) % 7 + 4) % 7 = 1 by omega, show ((x + (0 + 1 + 1 + 1)) % 7 + 4) % 7 = 2 by omega, show ((x + (0 + 1 + 1 + 1 + 1)) % 7 + 4) % 7 = 3 by omega, show ((x + (0 + 1 + 1 + 1 + 1 + 1)) % 7 + 4) % 7 = 4 by omega, show ((x + (0 + 1 + 1 + 1 + 1 + 1 + 1)) % 7 + 4) % 7 = 5 by omega]
    simp only [longcaselaw02_CivilWeeks.l0]
    rw [if_neg (by decide), if_pos trivial]
    decide +kernel
  · rw [show ((x + 0) % 7 + 4) % 7 = 0 by omega, show ((x + (0 + 1)) % 7 + 4) % 7 = 1 by omega, show ((x + (0 + 1 + 1)) % 7 + 4) % 7 = 2 by omega, show ((x + (0 + 1 + 1 + 1)) % 7 + 4) % 7 = 3 by omega, show ((x + (0 + 1 + 1 + 1 + 1)) % 7 + 4) % 7 = 4 by omega, show ((x + (0 + 1 + 1 + 1 + 1 + 1)) % 7 + 4) % 7 = 5 by omega, show ((x + (0 + 1 + 1 + 1 + 1 + 1 + 1)) % 7 + 4) % 7 = 6 by omega]
    simp only [longcaselaw02_CivilWeeks.l0]
    rw [if_neg (by decide), if_pos trivial]
    decide +kernel
  · rw [show ((x + 0) % 7 + 4) % 7 = 1 by omega, show ((x + (0 + 1)) % 7 + 4) % 7 = 2 by omega, show ((x + (0 + 1 + 1)) % 7 + 4) % 7 = 3 by omega, show ((x + (0 + 1 + 1 + 1)) % 7 + 4) % 7 = 4 by omega, show ((x + (0 + 1 + 1 + 1 + 1)) % 7 + 4) % 7 = 5 by omega, show ((x + (0 + 1 + 1 + 1 + 1 + 1)) % 7 + 4) % 7 = 6 by omega, show ((x + (0 + 1 + 1 + 1 + 1 + 1 + 1)) % 7 + 4) % 7 = 0 by omega]
    simp only [longcaselaw02_CivilWeeks.l0]
    rw [if_neg (by decide), if_pos trivial]
    decide +kernel
  · rw [show ((x + 0) % 7 + 4) % 7 = 2 by omega, show ((x + (0 + 1)) % 7 + 4) % 7 = 3 by omega, show ((x + (0 + 1 + 1)) % 7 + 4) % 7 = 4 by omega, show ((x + (0 + 1 + 1 + 1)) % 7 + 4) % 7 = 5 by omega, show ((x + (0 + 1 + 1 + 1 + 1)) % 7 + 4) % 7 = 6 by omega, show ((x + (0 + 1 + 1 + 1 + 1 + 1)) % 7 + 4) % 7 = 0 by omega, show ((x + (0 + 1 + 1 + 1 + 1 + 1 + 1)) % 7 + 4) % 7 = 1 by omega]
    simp only [longcaselaw02_CivilWeeks.l0]
    rw [if_neg (by decide), if_pos trivial]
    decide +kernel
  · rw [show ((x + 0) % 7 + 4) % 7 = 3 by omega, show ((x + (0 + 1)) % 7 + 4) % 7 = 4 by omega, show ((x + (0 + 1 + 1)) % 7 + 4) % 7 = 5 by omega, show ((x + (0 + 1 + 1 + 1)) % 7 + 4) % 7 = 6 by omega, show ((x + (0 + 1 + 1 + 1 + 1)) % 7 + 4) % 7 = 0 by omega, show ((x + (0 + 1 + 1 + 1 + 1 + 1)) % 7 + 4) % 7 = 1 by omega, show ((x + (0 + 1 + 1 + 1 + 1 + 1 + 1)) % 7 + 4) % 7 = 2 by omega]
    simp only [longcaselaw02_CivilWeeks.l0]
    rw [if_neg (by decide), if_pos trivial]
    decide +kernel

theorem and_mask (n : Int) : Go.bits .and .i64 n 65535 = n % 65536 := by
  have h127 : (BitVec.ofInt 64 65535).toNat = 2 ^ 16 - 1 := by decide
  have key : (BitVec.ofInt 64 n &&& BitVec.ofInt 64 65535).toNat = (n % ((2 ^ 64 : Nat) : Int)).toNat % 2 ^ 16 := by
    rw [BitVec.toNat_and, BitVec.toNat_ofInt, h127, Nat.and_two_pow_sub_one_eq_mod]
  show IntKind.i64.wrap ((BitVec.ofInt 64 n &&& BitVec.ofInt 64 65535).toNat : Nat) = n % 65536
  rw [key, IntKind.wrap_i64]
  omega
theorem and_bd (a : Int) : 0 ≤ Go.bits .and .i64 a 65535 ∧ Go.bits .and .i64 a 65535 ≤ 65535 := by
  rw [and_mask]; omega
theorem CivilYearday : longcaselaw02_CivilYearday.Pure := by
  intro y a hy _
  have hb := bounds_i32 hy
  have hl : lp y = if leapB y = true then 1 else 0 := rfl
  have hl1 := lp_01 y
  have r0 := right_jan y (by omega) (by omega)
  have bd := D_bd r0
  rw [D_jan] at bd
  have hab := and_bd a
  have hJ := J_succ y
  have Jlo := J_lo
  have Jhi := J_hi
  have g1 : J (-2147483648) ≤ J y := by
    by_cases h : -2147483648 < y
    · have := J_lt h; have := J_succ (-2147483648); have := lp_01 (-2147483648); omega
    · have : y = -2147483648 := by omega
      subst this; omega
  have g2 : J (y + 1) ≤ J 2147483648 := J_lt (by omega)
  have key : ∀ t : Int, 0 ≤ t → t < 365 + lp y → ∃ m d, civil_Date.f (J y + t) = some (y, m, d, 0) ∧ civil_Yearday.f y m d = some (t, 0) := by
    intro t ht0 ht
    have hb : dateB (J y + t) = true := by simp [dateB]; omega
    obtain ⟨y', m, d, h1, h2, h3⟩ := date_yes _ hb
    have hr := right_m h2
    have hdy := D_year ⟨hr.1, hr.2.1, hr.2.2.1, hr.2.2.2.1⟩
    rw [h3] at hdy
    have hyy : y' = y := by
      by_cases h : y' < y
      · have := J_lt h; omega
      · by_cases h' : y < y'
        · have := J_lt h'; omega
        · omega
    subst hyy
    refine ⟨m, d, h1, ?_⟩
    rw [yd_yes _ _ _ h2]
    congr 2
    unfold D at h3
    omega
  unfold longcaselaw02_CivilYearday.f
  rw [shown_f, w64 (n := y) (by omega) (by omega), days_yes _ _ _ r0, leap_f]
  simp only [Option.bind_some, D_jan]
  rw [tmodn hab.1, tmodn hab.1]
  generalize Go.bits .and .i64 a 65535 = c at *
  split
  · rename_i h
    rw [if_pos h] at hl
    obtain ⟨m, d, k1, k2⟩ := key (c % 366) (by omega) (by omega)
    rw [w64 (by omega) (by omega), k1]
    simp [k2]
  · rename_i h
    rw [if_neg h] at hl
    obtain ⟨m, d, k1, k2⟩ := key (c % 365) (by omega) (by omega)
    rw [w64 (by omega) (by omega), k1]
    simp [k2]
end Go.Proofs.YtmkmopphdkgjeaaDoor.Pure
