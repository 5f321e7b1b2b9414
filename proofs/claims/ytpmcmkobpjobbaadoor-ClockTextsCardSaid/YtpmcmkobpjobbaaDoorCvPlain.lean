/- The plain mathematics of civil dates: no program in sight. Days of a date, the date of a day, each of each. -/
namespace Go.Proofs.YtpmcmkobpjobbaaDoor
namespace Cv
/-- leap years -/
def leapB (y : Int) : Bool := y % 4 == 0 && (y % 100 != 0 || y % 400 == 0)
def lp (y : Int) : Int := if leapB y = true then 1 else 0
def len (y m : Int) : Int :=
  if m < 1 then 0 else if 12 < m then 0 else if m = 2 then 28 + lp y else if m = 4 ∨ m = 6 ∨ m = 9 ∨ m = 11 then 30 else 31
/-- the first day of a year -/
def J (y : Int) : Int := 365 * (y - 1) + (y - 1) / 4 - (y - 1) / 100 + (y - 1) / 400 + 306 - 719468
/-- days of the months ahead -/
def cum (y m : Int) : Int :=
  if m ≤ 1 then 0 else if m = 2 then 31 else lp y + (if m = 3 then 59 else if m = 4 then 90 else if m = 5 then 120 else if m = 6 then 151 else if m = 7 then 181 else
   if m = 8 then 212 else if m = 9 then 243 else if m = 10 then 273 else if m = 11 then 304 else if m = 12 then 334 else 365)
def D (y m d : Int) : Int := J y + cum y m + d - 1
def rightB (y m d : Int) : Bool := decide (-2147483648 ≤ y) && decide (y ≤ 2147483647) && decide (1 ≤ d) && decide (d ≤ len y m)

theorem lp_01 (y : Int) : lp y = 0 ∨ lp y = 1 := by unfold lp; split <;> simp
theorem leapB_iff (y : Int) : leapB y = true ↔ (y % 4 = 0 ∧ (y % 100 ≠ 0 ∨ y % 400 = 0)) := by
  simp [leapB]
theorem lp_of (y : Int) : (y % 4 = 0 ∧ (y % 100 ≠ 0 ∨ y % 400 = 0) ∧ lp y = 1) ∨ ((y % 4 ≠ 0 ∨ (y % 100 = 0 ∧ y % 400 ≠ 0)) ∧ lp y = 0) := by
  unfold lp
  by_cases h : leapB y = true
  · rw [if_pos h]; rw [leapB_iff] at h; omega
  · rw [if_neg h]; rw [leapB_iff] at h; omega
theorem J_succ (y : Int) : J (y + 1) = J y + 365 + lp y := by
  unfold J
  have := lp_of y
  omega
theorem J_lt {a b : Int} (h : a < b) : J (a + 1) ≤ J b := by
  unfold J
  omega
theorem J_era (y : Int) : J (y + 400) = J y + 146097 := by unfold J; omega
theorem cum_succ (y m : Int) (h1 : 1 ≤ m) (h2 : m ≤ 12) : cum y (m + 1) = cum y m + len y m := by
  have hm : m = 1 ∨ m = 2 ∨ m = 3 ∨ m = 4 ∨ m = 5 ∨ m = 6 ∨ m = 7 ∨ m = 8 ∨ m = 9 ∨ m = 10 ∨ m = 11 ∨ m = 12 := by omega
  rcases hm with h | h | h | h | h | h | h | h | h | h | h | h <;> subst h <;> simp [cum, len] <;> omega
theorem cum_13 (y : Int) : cum y 13 = 365 + lp y := by simp [cum]; omega
theorem cum_1 (y : Int) : cum y 1 = 0 := by simp [cum]
theorem len_pos (y m : Int) (h1 : 1 ≤ m) (h2 : m ≤ 12) : 28 ≤ len y m ∧ len y m ≤ 31 := by
  have := lp_01 y
  unfold len
  repeat' split
  all_goals omega
theorem len_out (y m : Int) (h : m < 1 ∨ 12 < m) : len y m = 0 := by
  unfold len
  repeat' split
  all_goals omega
theorem cum_le (y a : Int) (k : Nat) : 1 ≤ a → a + k ≤ 13 → cum y a ≤ cum y (a + k) := by
  induction k with
  | zero => intro _ _; simp
  | succ k ih =>
    intro h1 h2
    have h3 := ih h1 (by omega)
    have h4 := cum_succ y (a + k) (by omega) (by omega)
    have h5 := len_pos y (a + k) (by omega) (by omega)
    have e : a + ((k + 1 : Nat) : Int) = a + k + 1 := by omega
    rw [e, h4]
    omega
theorem cum_mono (y a b : Int) (h1 : 1 ≤ a) (h : a < b) (h2 : b ≤ 13) : cum y a + len y a ≤ cum y b := by
  rw [← cum_succ y a h1 (by omega)]
  have := cum_le y (a + 1) (b - (a + 1)).toNat (by omega) (by omega)
  have e : a + 1 + ((b - (a + 1)).toNat : Int) = b := by omega
  rwa [e] at this
theorem right_m {y m d : Int} (h : rightB y m d = true) : 1 ≤ m ∧ m ≤ 12 ∧ 1 ≤ d ∧ d ≤ len y m ∧ -2147483648 ≤ y ∧ y ≤ 2147483647 := by
  simp [rightB] at h
  obtain ⟨⟨⟨h1, h2⟩, h3⟩, h4⟩ := h
  by_cases hm : m < 1 ∨ 12 < m
  · rw [len_out y m hm] at h4; omega
  · omega
theorem right_mk {y m d : Int} (h : 1 ≤ d ∧ d ≤ len y m ∧ -2147483648 ≤ y ∧ y ≤ 2147483647) : rightB y m d = true := by
  simp [rightB]; omega
theorem cum_nn (y m : Int) (h1 : 1 ≤ m) (h2 : m ≤ 13) : 0 ≤ cum y m := by
  have := cum_le y 1 (m - 1).toNat (by omega) (by omega)
  have e : (1 : Int) + ((m - 1).toNat : Int) = m := by omega
  rw [e, cum_1] at this
  exact this
theorem D_year {y m d : Int} (h : 1 ≤ m ∧ m ≤ 12 ∧ 1 ≤ d ∧ d ≤ len y m) : J y ≤ D y m d ∧ D y m d < J (y + 1) := by
  have h1 := cum_mono y m 13 (by omega) (by omega) (by omega)
  rw [cum_13] at h1
  rw [J_succ]
  have := cum_nn y m (by omega) (by omega)
  unfold D; omega
theorem D_inj {y m d y' m' d' : Int} (h : 1 ≤ m ∧ m ≤ 12 ∧ 1 ≤ d ∧ d ≤ len y m) (h' : 1 ≤ m' ∧ m' ≤ 12 ∧ 1 ≤ d' ∧ d' ≤ len y' m') (he : D y m d = D y' m' d') :
    y = y' ∧ m = m' ∧ d = d' := by
  have a := D_year h
  have b := D_year h'
  have hy : y = y' := by
    by_cases h1 : y < y'
    · have := J_lt h1; omega
    · by_cases h2 : y' < y
      · have := J_lt h2; omega
      · omega
  subst hy
  have hm : m = m' := by
    by_cases h1 : m < m'
    · have := cum_mono y m m' (by omega) h1 (by omega); unfold D at he; omega
    · by_cases h2 : m' < m
      · have := cum_mono y m' m (by omega) h2 (by omega); unfold D at he; omega
      · omega
  subst hm
  unfold D at he
  omega
/-- the program's Days -/
theorem days_code (y m d : Int) (h : 1 ≤ m ∧ m ≤ 12) :
    ((if m < 3 then y - 1 else y) / 400) * 146097 + ((if m < 3 then y - 1 else y) % 400) * 365 + ((if m < 3 then y - 1 else y) % 400) / 4 - ((if m < 3 then y - 1 else y) % 400) / 100 + (153 * (if m < 3 then m + 9 else m - 3) + 2) / 5 + d - 1 - 719468 = D y m d := by
  have hl := lp_of y
  have hm : m = 1 ∨ m = 2 ∨ m = 3 ∨ m = 4 ∨ m = 5 ∨ m = 6 ∨ m = 7 ∨ m = 8 ∨ m = 9 ∨ m = 10 ∨ m = 11 ∨ m = 12 := by omega
  unfold D J
  rcases hm with h | h | h | h | h | h | h | h | h | h | h | h <;> subst h <;> simp [cum] <;> omega
theorem yoe (r : Int) (h0 : 0 ≤ r) (h1 : r < 146097) (y : Int) (hy : y = (r - r/1460 + r/36524 - r/146096) / 365) :
    0 ≤ y ∧ y ≤ 399 ∧ 365*y + y/4 - y/100 ≤ r ∧ r < 365*(y+1) + (y+1)/4 - (y+1)/100 + (if y = 399 then 1 else 0) := by
  have g : r/146096 = 0 ∨ r/146096 = 1 := by omega
  have f : r/36524 = 0 ∨ r/36524 = 1 ∨ r/36524 = 2 ∨ r/36524 = 3 ∨ r/36524 = 4:= by omega
  have hy0 : 0 ≤ y := by omega
  have hy1 : y ≤ 399 := by omega
  have d : y/100 = 0 ∨ y/100 = 1 ∨ y/100 = 2 ∨ y/100 = 3 := by omega
  refine ⟨hy0, hy1, ?_, ?_⟩
  · rcases g with g | g <;> rcases f with f | f | f | f | f <;> rcases d with d | d | d | d <;> rw [g, f] at hy <;> omega
  · split
    · omega
    · have hc : r/1460 ≤ (y+1)/4 ∨ r/1460 = (y+1)/4 + 1 ∨ r/1460 ≥ (y+1)/4 + 2 := by omega
      have hd : (y+1)/100 = y/100 ∨ (y+1)/100 = y/100 + 1 := by omega
      rcases g with g | g <;> rcases f with f | f | f | f | f <;> rcases d with d | d | d | d <;> rw [g, f] at hy <;> first | omega | (rcases hd with hd | hd <;> rw [hd, d] <;> rcases hc with hc | hc | hc <;> omega)

/-- what the program's Date reckons -/
def dy0 (n : Int) : Int := (n % 146097 - n % 146097 / 1460 + n % 146097 / 36524 - n % 146097 / 146096) / 365
def dr (n : Int) : Int := n % 146097 - (365 * dy0 n + dy0 n / 4 - dy0 n / 100)
def dm0 (n : Int) : Int := (5 * dr n + 2) / 153
def dday (n : Int) : Int := dr n - (153 * dm0 n + 2) / 5 + 1
def dy1 (n : Int) : Int := dy0 n + 400 * (n / 146097)
def dyear (n : Int) : Int := if 12 < dm0 n + 3 then dy1 n + 1 else dy1 n
def dmon (n : Int) : Int := if 12 < dm0 n + 3 then dm0 n + 3 - 12 else dm0 n + 3
theorem step4 (y : Int) : ((y + 1) / 4 = y / 4 ∧ (y + 1) % 4 ≠ 0) ∨ ((y + 1) / 4 = y / 4 + 1 ∧ (y + 1) % 4 = 0) := by omega
theorem step100 (y : Int) : ((y + 1) / 100 = y / 100 ∧ (y + 1) % 100 ≠ 0) ∨ ((y + 1) / 100 = y / 100 + 1 ∧ (y + 1) % 100 = 0) := by omega
theorem dy0_bd (n : Int) : 0 ≤ dy0 n ∧ dy0 n ≤ 399 ∧ 0 ≤ dr n ∧ dr n ≤ 365 + (lp (dy0 n + 1) - 1) := by
  have h := yoe (n % 146097) (by omega) (by omega) (dy0 n) rfl
  have hl := lp_of (dy0 n + 1)
  unfold dr
  generalize dy0 n = y at *
  have a := step4 y
  have b := step100 y
  refine ⟨h.1, h.2.1, by omega, ?_⟩
  obtain ⟨h1, h2, h3, h4⟩ := h
  by_cases e : y = 399
  · subst e; rw [if_pos rfl] at h4; omega
  · rw [if_neg e] at h4
    rcases a with ⟨a, a'⟩ | ⟨a, a'⟩ <;> rcases b with ⟨b, b'⟩ | ⟨b, b'⟩ <;> rw [a, b] at h4 <;> omega
theorem dm0_bd (n : Int) : 0 ≤ dm0 n ∧ dm0 n ≤ 11 := by
  have h := dy0_bd n
  have hl := lp_01 (dy0 n + 1)
  unfold dm0
  omega
theorem lp_shift (y q : Int) : lp (y + 400 * q) = lp y := by
  have a := lp_of y
  have b := lp_of (y + 400 * q)
  omega
theorem J_shift (y q : Int) : J (y + 400 * q) = J y + 146097 * q := by unfold J; omega
theorem J_base (y : Int) (h0 : 0 ≤ y) (h : y ≤ 399) : J (y + 1) = 365 * y + y / 4 - y / 100 + 306 - 719468 := by unfold J; omega
theorem D_date (n : Int) : 1 ≤ dmon n ∧ dmon n ≤ 12 ∧ 1 ≤ dday n ∧ dday n ≤ len (dyear n) (dmon n) ∧ D (dyear n) (dmon n) (dday n) = n - 719468 := by
  have h := dy0_bd n
  have hm := dm0_bd n
  have hl := lp_01 (dy0 n + 1)
  have e1 : dy1 n + 1 = dy0 n + 1 + 400 * (n / 146097) := by unfold dy1; omega
  have hl1 : lp (dy1 n + 1) = lp (dy0 n + 1) := by rw [e1, lp_shift]
  have hJ : J (dy1 n + 1) = 365 * dy0 n + dy0 n / 4 - dy0 n / 100 + 306 - 719468 + 146097 * (n / 146097) := by
    rw [e1, J_shift, J_base _ h.1 h.2.1]
  have hJ0 := J_succ (dy1 n)
  have hdiv : n = 146097 * (n / 146097) + n % 146097 := by omega
  have edr : dr n = n % 146097 - (365 * dy0 n + dy0 n / 4 - dy0 n / 100) := rfl
  have em0 : dm0 n = (5 * dr n + 2) / 153 := rfl
  have eday : dday n = dr n - (153 * dm0 n + 2) / 5 + 1 := rfl
  have hc : dm0 n = 0 ∨ dm0 n = 1 ∨ dm0 n = 2 ∨ dm0 n = 3 ∨ dm0 n = 4 ∨ dm0 n = 5 ∨ dm0 n = 6 ∨ dm0 n = 7 ∨ dm0 n = 8 ∨ dm0 n = 9 ∨ dm0 n = 10 ∨ dm0 n = 11 := by omega
  have hn : J (dy1 n + 1) + dr n = n - 719468 + 306 := by omega
  clear hdiv hJ edr
  unfold dyear dmon D
  rcases hc with c | c | c | c | c | c | c | c | c | c | c | c <;> rw [c] at em0 eday ⊢ <;> simp [cum, len] <;> (try rw [hl1]) <;> omega
end Cv
end Go.Proofs.YtpmcmkobpjobbaaDoor
