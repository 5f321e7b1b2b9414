/- What the printed functions of civil dates and of the clock come to, in closed form; texts as lists of bytes; seconds and civil times are each other's inverse. -/
import Derived.Test.YtpmcmkobpjobbaaDoorPPAx
import Derived.IntWalk
import Derived.Laws.Concat
import Derived.Lib.ItoaLen
namespace Go.Proofs.YtpmcmkobpjobbaaDoor
open Go.RowKit Hand PPA Cv Go.Proofs.YtpmcmkobpjobbaaDoorW.PrintWords Go.Proofs.YtpmcmkobpjobbaaDoorW.PrintLast Go.Proofs.YtpmcmkobpjobbaaDoorW.PrintMore
theorem w64 {n : Int} (h1 : -9223372036854775808 ≤ n) (h2 : n ≤ 9223372036854775807) : wrap64 n = n := by
  unfold wrap64
  omega
theorem tdivn {a b : Int} (h : 0 ≤ a) : a.tdiv b = a / b := Int.tdiv_eq_ediv_of_nonneg h
theorem tmodn {a b : Int} (h : 0 ≤ a) : a.tmod b = a % b := Int.tmod_eq_emod_of_nonneg h
theorem may_f (y : Int) : civil_may.f y = some (decide (-2147483648 ≤ y) && decide (y ≤ 2147483647)) := by
  unfold civil_may.f
  split
  · rename_i h; simp; omega
  · rename_i h; simp; omega
theorem right_f (y m d : Int) : civil_Right.f y m d = some (rightB y m d) := by
  unfold civil_Right.f civil_Length.f
  rw [may_f]
  simp only [Option.bind_some]
  unfold rightB
  split
  · rename_i h; rw [h]
    split
    · rename_i h1; simp; omega
    · rename_i h1; simp; omega
  · rename_i h
    rw [Bool.not_eq_true] at h
    rw [h]; simp
theorem tdm (a b : Int) (hb : 1 ≤ b) : (a.tmod b < 0 ∧ a.tdiv b = a / b + 1 ∧ a.tmod b = a % b - b) ∨ (0 ≤ a.tmod b ∧ a.tdiv b = a / b ∧ a.tmod b = a % b) := by
  have hm := Int.emod_nonneg a (b := b) (by omega)
  have hl := Int.emod_lt_of_pos a (b := b) (by omega)
  rw [Int.tmod_eq_emod, Int.tdiv_eq_ediv]
  by_cases h : 0 ≤ a ∨ b ∣ a
  · rw [if_pos h, if_pos h]; right; omega
  · rw [if_neg h, if_neg h, Int.sign_eq_one_of_pos (by omega)]; left; omega
theorem ediv_bd (a b : Int) (hb : 1 ≤ b) (h1 : -9223372036854775808 ≤ a) (h2 : a ≤ 9223372036854775807) : -9223372036854775808 ≤ a / b ∧ a / b ≤ 9223372036854775807 ∧ (a / b = 9223372036854775807 → b = 1) ∧ (a < 0 → a / b < 0) := by
  have hm := Int.emod_nonneg a (b := b) (by omega)
  have hl := Int.emod_lt_of_pos a (b := b) (by omega)
  have hd := Int.mul_ediv_add_emod a b
  refine ⟨?_, ?_, ?_, ?_⟩
  · have := Int.ediv_le_ediv (a := -9223372036854775808) (b := a) (c := b) (by omega) h1
    have h3 : -9223372036854775808 ≤ (-9223372036854775808 : Int) / b := by
      rw [Int.le_ediv_iff_mul_le (by omega)]
      have := Int.mul_le_mul_of_nonpos_left (a := -9223372036854775808) (b := b) (c := 1) (by omega) hb
      omega
    omega
  · by_cases h : 0 ≤ a
    · have := Int.ediv_le_self b h; omega
    · have := Int.ediv_neg_of_neg_of_pos (a := a) (b := b) (by omega) (by omega); omega
  · intro h
    by_cases h0 : 0 ≤ a
    · by_cases hb1 : b = 1
      · exact hb1
      · have h5 : 2 * (a / b) ≤ b * (a / b) := Int.mul_le_mul_of_nonneg_right (by omega) (by omega)
        omega
    · have := Int.ediv_neg_of_neg_of_pos (a := a) (b := b) (by omega) (by omega); omega
  · intro h; exact Int.ediv_neg_of_neg_of_pos h (by omega)
theorem div_f (a b : Int) (hb : 1 ≤ b) (hb2 : b ≤ 1000000) (h1 : -9223372036854775808 ≤ a) (h2 : a ≤ 9223372036854775807) :
    number_Div.f a b = some (a / b, a % b, true) := by
  have hm := Int.emod_nonneg a (b := b) (by omega)
  have hl := Int.emod_lt_of_pos a (b := b) (by omega)
  have hd := ediv_bd a b hb h1 h2
  have ht := tdm a b hb
  unfold number_Div.f
  rw [if_neg (by omega), if_neg (by omega)]
  rcases ht with ⟨t1, t2, t3⟩ | ⟨t1, t2, t3⟩
  · have hneg : a < 0 := by
      by_cases h : 0 ≤ a
      · rw [tmodn h] at t3; omega
      · omega
    have := hd.2.2.2 hneg
    rw [if_pos t1, t2, t3, w64 (n := a / b + 1) (by omega) (by omega), w64 (by omega) (by omega), w64 (by omega) (by omega)]
    congr 1
    simp only [Prod.mk.injEq]
    exact ⟨by omega, by omega, trivial⟩
  · rw [if_neg (by omega), t2, t3, w64 (by omega) (by omega)]
theorem days_yes (y m d : Int) (h : rightB y m d = true) : civil_Days.f y m d = some (D y m d, 0) := by
  have hr := right_m h
  have hl := len_pos y m hr.1 hr.2.1
  have hc := days_code y m d ⟨hr.1, hr.2.1⟩
  unfold civil_Days.f
  rw [right_f, h]
  simp only [Option.bind_some, if_true]
  rw [w64 (n := m - 3) (by omega) (by omega)]
  by_cases h3 : m - 3 < 0
  · rw [if_pos h3, w64 (n := y - 1) (by omega) (by omega), div_f _ _ (by omega) (by omega) (by omega) (by omega)]
    rw [if_pos (by omega), if_pos (by omega)] at hc
    simp only [Option.bind_some]
    simp (disch := omega) only [w64, tdivn]
    rw [← hc]
    congr 2
    omega
  · rw [if_neg h3, div_f _ _ (by omega) (by omega) (by omega) (by omega)]
    rw [if_neg (by omega), if_neg (by omega)] at hc
    simp only [Option.bind_some]
    simp (disch := omega) only [w64, tdivn]
    rw [← hc]
theorem days_no (y m d : Int) (h : rightB y m d = false) : civil_Days.f y m d = some (0, 1) := by
  unfold civil_Days.f
  rw [right_f, h]
  rfl
theorem D_bd {y m d : Int} (h : rightB y m d = true) : -800000000000 ≤ D y m d ∧ D y m d ≤ 800000000000 := by
  have hr := right_m h
  have := D_year ⟨hr.1, hr.2.1, hr.2.2.1, hr.2.2.2.1⟩
  unfold J at this
  omega
theorem right_jan (y : Int) (h1 : -2147483648 ≤ y) (h2 : y ≤ 2147483647) : rightB y 1 1 = true := by
  apply right_mk
  have := len_pos y 1 (by omega) (by omega)
  omega
theorem D_jan (y : Int) : D y 1 1 = J y := by simp [D, cum]
/-- a day that has a date -/
def dateB (n : Int) : Bool := decide (-784353015833 ≤ n) && decide (n ≤ 784351576776)
theorem J_lo : J (-2147483648) = -784353015833 := by decide +kernel
theorem J_hi : J 2147483648 = 784351576777 := by decide +kernel
theorem add_hi (a : Int) (h2 : a ≤ 9223372036854775807) (h : 9223372036854775807 < a + 719468) : number_Add.f a 719468 = some (0, false) := by
  unfold number_Add.f
  have e : wrap64 (a + 719468) = a + 719468 - 18446744073709551616 := by unfold wrap64; omega
  have d1 : decide (a < 0) = false := by simp; omega
  have d2 : decide (a + 719468 - 18446744073709551616 < 0) = true := by simp; omega
  rw [e, d1, d2]
  rfl
theorem add_ok (a : Int) (h1 : -9223372036854775808 ≤ a) (h : a + 719468 ≤ 9223372036854775807) : number_Add.f a 719468 = some (a + 719468, true) := by
  unfold number_Add.f
  rw [w64 (by omega) (by omega)]
  split
  · rename_i h0
    have d1 : decide (a < 0) = false := by simpa using h0
    have d2 : decide (a + 719468 < 0) = false := by simp at d1 ⊢; omega
    rw [d1, d2]
    rfl
  · rfl
theorem date_in {n : Int} : dateB n = true ↔ (-2147483648 ≤ dyear (n + 719468) ∧ dyear (n + 719468) ≤ 2147483647) := by
  have h := D_date (n + 719468)
  have e : n + 719468 - 719468 = n := by omega
  rw [e] at h
  have hy := D_year ⟨h.1, h.2.1, h.2.2.1, h.2.2.2.1⟩
  rw [h.2.2.2.2] at hy
  have l := J_lo
  have r := J_hi
  simp only [dateB, Bool.and_eq_true, decide_eq_true_eq]
  generalize dyear (n + 719468) = y at *
  constructor
  · intro hn
    constructor
    · by_cases hc : y < -2147483648
      · have := J_lt hc; omega
      · omega
    · by_cases hc : 2147483647 < y
      · by_cases hc2 : 2147483648 < y
        · have := J_lt hc2
          have := J_succ 2147483648
          have := lp_01 2147483648
          omega
        · have : y = 2147483648 := by omega
          subst this; omega
      · omega
  · intro hn
    constructor
    · by_cases hc : -2147483648 < y
      · have := J_lt hc
        have := J_succ (-2147483648)
        have := lp_01 (-2147483648)
        omega
      · have : y = -2147483648 := by omega
        subst this; omega
    · have hc : y < 2147483648 := by omega
      have := J_lt hc
      omega
theorem date_f (n : Int) (h1 : -9223372036854775808 ≤ n) (h2 : n ≤ 9223372036854775807) :
    civil_Date.f n = if dateB n = true then some (dyear (n + 719468), dmon (n + 719468), dday (n + 719468), 0) else some (0, 0, 0, 2) := by
  by_cases ho : 9223372036854775807 < n + 719468
  · have hb : dateB n = false := by simp [dateB]; omega
    unfold civil_Date.f
    rw [add_hi n h2 ho, hb]
    rfl
  · have hi := @date_in n
    have hb := dy0_bd (n + 719468)
    have hm := dm0_bd (n + 719468)
    have hl := lp_01 (dy0 (n + 719468) + 1)
    unfold civil_Date.f
    rw [add_ok n h1 (by omega)]
    simp only [Option.bind_some, if_true]
    have q1 : -9223372036854775808 ≤ n + 719468 := by omega
    have q2 : n + 719468 ≤ 9223372036854775807 := by omega
    clear ho h1 h2
    generalize n + 719468 = N at *
    rw [div_f N _ (by omega) (by omega) (by omega) (by omega)]
    simp only [Option.bind_some]
    have hr0 : 0 ≤ N % 146097 := by omega
    have hr1 : N % 146097 < 146097 := by omega
    have hq1 : -100000000000000 ≤ N / 146097 := by omega
    have hq2 : N / 146097 ≤ 100000000000000 := by omega
    have e1 : wrap64 (Int.tdiv (wrap64 ((wrap64 ((wrap64 (N % 146097 - (wrap64 (Int.tdiv (N % 146097) 1460)))) + (wrap64 (Int.tdiv (N % 146097) 36524)))) - (wrap64 (Int.tdiv (N % 146097) 146096)))) 365) = dy0 N := by
      have : 0 ≤ (N % 146097 - N % 146097 / 1460 + N % 146097 / 36524 - N % 146097 / 146096) := by omega
      simp (disch := omega) only [w64, tdivn]
      rfl
    rw [e1]
    have e2 : wrap64 (N % 146097 - (wrap64 ((wrap64 ((wrap64 (365 * (dy0 N))) + (wrap64 (Int.tdiv (dy0 N) 4)))) - (wrap64 (Int.tdiv (dy0 N) 100))))) = dr N := by
      simp (disch := omega) only [w64, tdivn]
      rfl
    rw [e2]
    have e3 : wrap64 (Int.tdiv (wrap64 ((wrap64 (5 * dr N)) + 2)) 153) = dm0 N := by
      simp (disch := omega) only [w64, tdivn]
      rfl
    rw [e3]
    have e4 : wrap64 ((wrap64 (dr N - (wrap64 (Int.tdiv (wrap64 ((wrap64 (153 * dm0 N)) + 2)) 5)))) + 1) = dday N := by
      simp (disch := omega) only [w64, tdivn]
      rfl
    rw [e4]
    have e5 : wrap64 (dy0 N + (wrap64 (400 * (N / 146097)))) = dy1 N := by
      simp (disch := omega) only [w64]
      rfl
    rw [e5]
    have h5 : -100000000000000000 ≤ dy1 N ∧ dy1 N ≤ 100000000000000000 := by unfold dy1; omega
    rw [w64 (n := dm0 N + 3) (by omega) (by omega), w64 (n := dy1 N + 1) (by omega) (by omega)]
    have hy : ∀ b : Bool, (decide (-2147483648 ≤ dyear N) && decide (dyear N ≤ 2147483647)) = b → dateB n = b := by
      intro b hb2
      cases b
      · rw [Bool.eq_false_iff]; intro hd; have := hi.1 hd; simp at hb2; omega
      · simp at hb2; exact hi.2 ⟨hb2.1, hb2.2⟩
    by_cases h3 : dm0 N + 3 > 12
    · rw [if_pos h3, may_f]
      simp only [Option.bind_some]
      have e6 : dyear N = dy1 N + 1 := by unfold dyear; rw [if_pos h3]
      have e7 : dmon N = dm0 N + 3 - 12 := by unfold dmon; rw [if_pos h3]
      rw [w64 (by omega) (by omega)]
      rw [← e6, ← e7, hy _ rfl]
    · rw [if_neg h3, may_f]
      simp only [Option.bind_some]
      have e6 : dyear N = dy1 N := by unfold dyear; rw [if_neg h3]
      have e7 : dmon N = dm0 N + 3 := by unfold dmon; rw [if_neg h3]
      rw [← e6, ← e7, hy _ rfl]
/-- A civil time that is right. -/
def cright (y m d H M S : Int) : Bool := rightB y m d && decide (0 ≤ H) && decide (H < 24) && decide (0 ≤ M) && decide (M < 60) && decide (0 ≤ S) && decide (S < 60)
theorem cright_iff {y m d H M S : Int} : cright y m d H M S = true ↔ rightB y m d = true ∧ 0 ≤ H ∧ H < 24 ∧ 0 ≤ M ∧ M < 60 ∧ 0 ≤ S ∧ S < 60 := by
  simp [cright, and_assoc]
/-- Its second. -/
def csec (y m d H M S : Int) : Int := D y m d * 86400 + H * 3600 + M * 60 + S
/-- The civil time of a second. -/
def oY (t : Int) : Int := dyear (t / 86400 + 719468)
def oMo (t : Int) : Int := dmon (t / 86400 + 719468)
def oD (t : Int) : Int := dday (t / 86400 + 719468)
def oH (t : Int) : Int := t % 86400 / 3600
def oMi (t : Int) : Int := t % 86400 % 3600 / 60
def oS (t : Int) : Int := t % 86400 % 60
def oB (t : Int) : Bool := dateB (t / 86400)
theorem of_f (t : Int) (h1 : -9223372036854775808 ≤ t) (h2 : t ≤ 9223372036854775807) :
    clock_Of.f t = if oB t = true then some (oY t, oMo t, oD t, oH t, oMi t, oS t, 0) else some (0, 0, 0, 0, 0, 0, 2) := by
  unfold clock_Of.f
  rw [div_f t 86400 (by omega) (by omega) h1 h2]
  simp only [Option.bind_some]
  rw [date_f _ (by omega) (by omega)]
  unfold oB
  by_cases h : dateB (t / 86400) = true
  · rw [if_pos h, if_pos h]
    have q1 : 0 ≤ t % 86400 := by omega
    have q2 : t % 86400 < 86400 := by omega
    simp only [Option.bind_some, if_true]
    unfold oY oMo oD oH oMi oS
    generalize t % 86400 = s at *
    simp (disch := omega) only [w64, tdivn, tmodn]
  · rw [if_neg h, if_neg h]
    rfl
theorem csec_bd {y m d H M S : Int} (h : cright y m d H M S = true) : -70000000000000000 ≤ csec y m d H M S ∧ csec y m d H M S ≤ 70000000000000000 := by
  obtain ⟨hr, h1, h2, h3, h4, h5, h6⟩ := cright_iff.mp h
  have hb := D_bd hr
  unfold csec
  omega
theorem sec_code {y m d H M S : Int} (h : cright y m d H M S = true) : wrap64 ((wrap64 (D y m d * 86400)) + (wrap64 ((wrap64 ((wrap64 (H * 3600)) + (wrap64 (M * 60)))) + S))) = csec y m d H M S := by
  obtain ⟨hr, h1, h2, h3, h4, h5, h6⟩ := cright_iff.mp h
  have hb := D_bd hr
  unfold csec
  generalize D y m d = X at *
  simp (disch := omega) only [w64]
  omega
/-- How two lists of numbers stand. -/
def cmpL : List Int → List Int → Int
  | [], [] => 0
  | [], _ :: _ => -1
  | _ :: _, [] => 1
  | x :: xs, y :: ys => if x < y then -1 else if x > y then 1 else cmpL xs ys
theorem cmp_f (a b : Int) : cmp_Compare_int.f a b = some (if a < b then -1 else if a > b then 1 else 0) := by
  unfold cmp_Compare_int.f cmp_isNaN_int.f
  simp
  repeat (first | rfl | split)
theorem cmp6_f (k : Nat) (hk : 7 ≤ k) (a b c d e f a' b' c' d' e' f' : Int) : PPA.clock_Compare.f k a b c d e f a' b' c' d' e' f' = some (cmpL [a, b, c, d, e, f] [a', b', c', d', e', f']) := by
  obtain ⟨k, rfl⟩ : ∃ j, k = j + 7 := ⟨k - 7, by omega⟩
  have r : ∀ (x0 x1 x2 x3 x4 x5 : Int), rd [x0, x1, x2, x3, x4, x5] 0 = x0 ∧ rd [x0, x1, x2, x3, x4, x5] 1 = x1 ∧ rd [x0, x1, x2, x3, x4, x5] 2 = x2 ∧ rd [x0, x1, x2, x3, x4, x5] 3 = x3 ∧ rd [x0, x1, x2, x3, x4, x5] 4 = x4 ∧ rd [x0, x1, x2, x3, x4, x5] 5 = x5 := fun _ _ _ _ _ _ => ⟨rfl, rfl, rfl, rfl, rfl, rfl⟩
  obtain ⟨p0, p1, p2, p3, p4, p5⟩ := r a b c d e f
  obtain ⟨q0, q1, q2, q3, q4, q5⟩ := r a' b' c' d' e' f'
  unfold PPA.clock_Compare.f PPA.clock_list.f
  simp only [Option.bind_some]
  unfold PPA.slices_Compare_int_int.f
  have w1 : wrap64 ((0 : Int) + 1) = 1 := w64 (by omega) (by omega)
  have w2 : wrap64 ((1 : Int) + 1) = 2 := w64 (by omega) (by omega)
  have w3 : wrap64 ((2 : Int) + 1) = 3 := w64 (by omega) (by omega)
  have w4 : wrap64 ((3 : Int) + 1) = 4 := w64 (by omega) (by omega)
  have w5 : wrap64 ((4 : Int) + 1) = 5 := w64 (by omega) (by omega)
  have w6 : wrap64 ((5 : Int) + 1) = 6 := w64 (by omega) (by omega)
  have st : ∀ (j : Nat) (L L' : List Int) (i : Int), 0 ≤ i → i < 6 → L.length = 6 → L'.length = 6 → PPA.slices_Compare_int_int.l0 (j + 1) L L' L 6 i = if rd L i < rd L' i then some (-1) else if rd L i > rd L' i then some 1 else PPA.slices_Compare_int_int.l0 j L L' L 6 (wrap64 (i + 1)) := by
    intro j L L' i h0 h6 hL hL'
    rw [PPA.slices_Compare_int_int.l0, if_pos h6, if_pos h0, if_pos (by omega), if_neg (by omega), if_pos (by omega), cmp_f]
    simp only [Option.bind_some]
    by_cases h : rd L i < rd L' i
    · rw [if_pos h, if_pos h]; rfl
    · rw [if_neg h, if_neg h]
      by_cases h : rd L i > rd L' i
      · rw [if_pos h, if_pos h]; rfl
      · rw [if_neg h, if_neg h]; rfl
  have en : ∀ (j : Nat) (L L' : List Int), L.length = 6 → L'.length = 6 → PPA.slices_Compare_int_int.l0 (j + 1) L L' L 6 6 = some 0 := by
    intro j L L' hL hL'
    rw [PPA.slices_Compare_int_int.l0, if_neg (by omega), if_neg (by omega)]
  have l6 : (([a, b, c, d, e, f] : List Int).length : Int) = 6 := rfl
  rw [l6, st _ _ _ _ (by omega) (by omega) rfl rfl, p0, q0, w1, st _ _ _ _ (by omega) (by omega) rfl rfl, p1, q1, w2, st _ _ _ _ (by omega) (by omega) rfl rfl, p2, q2, w3, st _ _ _ _ (by omega) (by omega) rfl rfl, p3, q3, w4, st _ _ _ _ (by omega) (by omega) rfl rfl, p4, q4, w5, st _ _ _ _ (by omega) (by omega) rfl rfl, p5, q5, w6, en _ _ _ rfl rfl]
  have hs : ∀ (x y c : Int), (if x < y then some (-1) else if x > y then some 1 else some c) = some (if x < y then -1 else if x > y then 1 else c) := by
    intro x y c
    by_cases h : x < y
    · rw [if_pos h, if_pos h]
    · rw [if_neg h, if_neg h]
      by_cases h : x > y
      · rw [if_pos h, if_pos h]
      · rw [if_neg h, if_neg h]
  simp only [hs, Option.bind_some]
  rfl
/-- A number by so many digits at least. -/
def padN (w n : Nat) : List UInt8 := List.replicate (w - (Lib.decDigits n).length) 48 ++ Lib.decDigits n
def padZ (w n : Nat) : List UInt8 := if n = 0 then List.replicate w 48 else padN w n
theorem dd_big (n : Nat) (h : ¬ n < 10) : Lib.decDigits n = Lib.decDigits (n / 10) ++ [UInt8.ofNat (48 + n % 10)] := by
  conv => lhs; rw [Lib.decDigits, dif_neg h]
theorem padZ_step (w n : Nat) (h : 0 < n ∨ 0 < w) : padZ w n = padZ (w - 1) (n / 10) ++ [UInt8.ofNat (48 + n % 10)] := by
  by_cases h0 : n = 0
  · subst h0
    obtain ⟨v, rfl⟩ : ∃ v, w = v + 1 := ⟨w - 1, by omega⟩
    simp [padZ, List.replicate_succ']
  · by_cases h1 : n < 10
    · have e : n / 10 = 0 := by omega
      have e2 : n % 10 = n := by omega
      simp only [padZ, if_neg h0, e, if_true, padN, Lib.decDigits_one h1, e2, List.length_singleton]
    · have e : ¬ n / 10 = 0 := by omega
      simp only [padZ, if_neg h0, if_neg e, padN, dd_big n h1, List.length_append, List.length_singleton]
      rw [← List.append_assoc]
      congr 3
      omega
theorem padZ_pad (w n : Nat) (h : 1 ≤ w) : padZ w n = padN w n := by
  unfold padZ
  by_cases h0 : n = 0
  · subst h0
    obtain ⟨v, rfl⟩ : ∃ v, w = v + 1 := ⟨w - 1, by omega⟩
    simp [padN, Lib.decDigits_one (show 0 < 10 by omega), List.replicate_succ']
  · rw [if_neg h0]
theorem padZ_00 : padZ 0 0 = [] := rfl
theorem pad2 (n : Nat) (h : n < 100) : padN 2 n = [UInt8.ofNat (48 + n / 10), UInt8.ofNat (48 + n % 10)] := by
  have e : n / 10 / 10 = 0 := by omega
  have e2 : n / 10 % 10 = n / 10 := by omega
  rw [← padZ_pad 2 n (by omega), padZ_step 2 n (by omega), padZ_step (2 - 1) (n / 10) (by omega), e, e2]
  rfl
theorem pad4 (n : Nat) (h : n < 10000) : padN 4 n = [UInt8.ofNat (48 + n / 1000), UInt8.ofNat (48 + n / 100 % 10), UInt8.ofNat (48 + n / 10 % 10), UInt8.ofNat (48 + n % 10)] := by
  have e : n / 10 / 10 / 10 / 10 = 0 := by omega
  have e2 : n / 10 / 10 / 10 % 10 = n / 1000 := by omega
  have e3 : n / 10 / 10 % 10 = n / 100 % 10 := by omega
  rw [← padZ_pad 4 n (by omega), padZ_step 4 n (by omega), padZ_step (4 - 1) (n / 10) (by omega), padZ_step (4 - 1 - 1) (n / 10 / 10) (by omega), padZ_step (4 - 1 - 1 - 1) (n / 10 / 10 / 10) (by omega), e, e2, e3]
  rfl
theorem pad_len (w n : Nat) (h : n ≤ 4000000000) : w ≤ (padN w n).length ∧ (padN w n).length ≤ w + 20 := by
  have := Lib.nDigits_le20 n (by omega)
  rw [← Lib.decDigits_length] at this
  simp [padN]
  omega
theorem pad_ge (w n : Nat) : ∀ c ∈ padN w n, 48 ≤ c.toNat ∧ c.toNat ≤ 57 := by
  have hd : ∀ n : Nat, ∀ c ∈ Lib.decDigits n, 48 ≤ c.toNat ∧ c.toNat ≤ 57 := by
    intro n
    induction n using Nat.strongRecOn with
    | _ n ih =>
      intro c hc
      by_cases h : n < 10
      · rw [Lib.decDigits_one h] at hc
        obtain rfl := List.mem_singleton.mp hc
        rw [UInt8.toNat_ofNat']
        omega
      · rw [dd_big n h] at hc
        rcases List.mem_append.mp hc with hc | hc
        · exact ih (n / 10) (by omega) c hc
        · obtain rfl := List.mem_singleton.mp hc
          rw [UInt8.toNat_ofNat']
          omega
  intro c hc
  unfold padN at hc
  rcases List.mem_append.mp hc with hc | hc
  · obtain ⟨_, rfl⟩ := List.mem_replicate.mp hc
    decide
  · exact hd n c hc
def valL (l : List UInt8) : Nat := l.foldl (fun a c => 10 * a + (c.toNat - 48)) 0
theorem val_dd (n : Nat) : valL (Lib.decDigits n) = n := by
  induction n using Nat.strongRecOn with
  | _ n ih =>
    by_cases h : n < 10
    · rw [Lib.decDigits_one h]
      simp only [valL, List.foldl_cons, List.foldl_nil]
      rw [UInt8.toNat_ofNat']
      omega
    · rw [dd_big n h]
      have := ih (n / 10) (by omega)
      unfold valL at *
      rw [List.foldl_append, this]
      simp only [List.foldl_cons, List.foldl_nil]
      rw [UInt8.toNat_ofNat']
      omega
theorem val_pad (w n : Nat) : valL (padN w n) = n := by
  have hz : ∀ z : Nat, List.foldl (fun a (c : UInt8) => 10 * a + (c.toNat - 48)) 0 (List.replicate z 48) = 0 := by
    intro z
    induction z with
    | zero => rfl
    | succ z ih => rw [List.replicate_succ, List.foldl_cons]; exact ih
  have := val_dd n
  unfold valL padN at *
  rw [List.foldl_append, hz, this]
theorem pad_inj {w n n' : Nat} (h : padN w n = padN w n') : n = n' := by
  rw [← val_pad w n, h, val_pad]
theorem szl (l : List UInt8) : (ByteArray.mk l.toArray).size = l.length := by simp [ByteArray.size]
def sgn (y : Int) : List UInt8 := if y < 0 then [45] else []
def textL (y m d H M S : Int) : List UInt8 :=
  sgn y ++ padN 4 y.natAbs ++ [45] ++ padN 2 m.toNat ++ [45] ++ padN 2 d.toNat ++ [32] ++ padN 2 H.toNat ++ [58] ++ padN 2 M.toNat ++ [58] ++ padN 2 S.toNat
theorem mk1 (x : UInt8) : (⟨#[x]⟩ : ByteArray) = ⟨[x].toArray⟩ := rfl
/-- All behind a text's year. -/
def tailL (m d H M S : Int) : List UInt8 := [45, UInt8.ofNat (48 + m.toNat / 10), UInt8.ofNat (48 + m.toNat % 10), 45, UInt8.ofNat (48 + d.toNat / 10), UInt8.ofNat (48 + d.toNat % 10), 32, UInt8.ofNat (48 + H.toNat / 10), UInt8.ofNat (48 + H.toNat % 10), 58, UInt8.ofNat (48 + M.toNat / 10), UInt8.ofNat (48 + M.toNat % 10), 58, UInt8.ofNat (48 + S.toNat / 10), UInt8.ofNat (48 + S.toNat % 10)]
theorem text_tail {y m d H M S : Int} (h : cright y m d H M S = true) : textL y m d H M S = (sgn y ++ padN 4 y.natAbs) ++ tailL m d H M S := by
  obtain ⟨hr, h1, h2, h3, h4, h5, h6⟩ := cright_iff.mp h
  obtain ⟨r1, r2, r3, r4, r5, r6⟩ := right_m hr
  have hl := len_pos y m r1 r2
  unfold textL tailL
  rw [pad2 m.toNat (by omega), pad2 d.toNat (by omega), pad2 H.toNat (by omega), pad2 M.toNat (by omega), pad2 S.toNat (by omega)]
  simp
theorem text_len {y m d H M S : Int} (h : cright y m d H M S = true) : 19 ≤ (textL y m d H M S).length ∧ (textL y m d H M S).length ≤ 60 := by
  rw [text_tail h]
  obtain ⟨r1, r2, r3, r4, r5, r6⟩ := right_m (cright_iff.mp h).1
  have := pad_len 4 y.natAbs (by omega)
  unfold sgn tailL
  simp
  split <;> simp <;> omega
theorem chr_inj {a b : Nat} (ha : a ≤ 100) (hb : b ≤ 100) (h : UInt8.ofNat (48 + a) = UInt8.ofNat (48 + b)) : a = b := by
  have := congrArg UInt8.toNat h
  rw [UInt8.toNat_ofNat', UInt8.toNat_ofNat'] at this
  omega
theorem tail_inj {m d H M S m' d' H' M' S' : Int} (b1 : 0 ≤ m) (b2 : m ≤ 99) (c1 : 0 ≤ d) (c2 : d ≤ 99) (d1 : 0 ≤ H) (d2 : H ≤ 99) (e1 : 0 ≤ M) (e2 : M ≤ 99) (f1 : 0 ≤ S) (f2 : S ≤ 99)
    (b1' : 0 ≤ m') (b2' : m' ≤ 99) (c1' : 0 ≤ d') (c2' : d' ≤ 99) (d1' : 0 ≤ H') (d2' : H' ≤ 99) (e1' : 0 ≤ M') (e2' : M' ≤ 99) (f1' : 0 ≤ S') (f2' : S' ≤ 99) (h : tailL m d H M S = tailL m' d' H' M' S') : m = m' ∧ d = d' ∧ H = H' ∧ M = M' ∧ S = S' := by
  unfold tailL at h
  simp only [List.cons.injEq, true_and, and_true] at h
  obtain ⟨g1, g2, g3, g4, g5, g6, g7, g8, g9, g10⟩ := h
  have g1 := chr_inj (by omega) (by omega) g1
  have g2 := chr_inj (by omega) (by omega) g2
  have g3 := chr_inj (by omega) (by omega) g3
  have g4 := chr_inj (by omega) (by omega) g4
  have g5 := chr_inj (by omega) (by omega) g5
  have g6 := chr_inj (by omega) (by omega) g6
  have g7 := chr_inj (by omega) (by omega) g7
  have g8 := chr_inj (by omega) (by omega) g8
  have g9 := chr_inj (by omega) (by omega) g9
  have g10 := chr_inj (by omega) (by omega) g10
  omega
theorem head_inj {y y' : Int} (h : sgn y ++ padN 4 y.natAbs = sgn y' ++ padN 4 y'.natAbs) (hy : y.natAbs ≤ 4000000000) (hy' : y'.natAbs ≤ 4000000000) : y = y' := by
  have key : ∀ a b : Nat, a ≤ 4000000000 → [45] ++ padN 4 b = padN 4 a → False := by
    intro a b ha he
    have := pad_ge 4 a 45 (by rw [← he]; simp)
    have e : (45 : UInt8).toNat = 45 := rfl
    omega
  unfold sgn at h
  by_cases a : y < 0
  · by_cases b : y' < 0
    · rw [if_pos a, if_pos b] at h
      have := pad_inj (List.append_cancel_left h)
      omega
    · rw [if_pos a, if_neg b] at h
      exact (key _ _ hy' h).elim
  · by_cases b : y' < 0
    · rw [if_neg a, if_pos b] at h
      exact (key _ _ hy h.symm).elim
    · rw [if_neg a, if_neg b] at h
      have := pad_inj (List.append_cancel_left h)
      omega
theorem text_inj {y m d H M S y' m' d' H' M' S' : Int} (h : cright y m d H M S = true) (h' : cright y' m' d' H' M' S' = true) (he : textL y m d H M S = textL y' m' d' H' M' S') : y = y' ∧ m = m' ∧ d = d' ∧ H = H' ∧ M = M' ∧ S = S' := by
  rw [text_tail h, text_tail h'] at he
  obtain ⟨hr, h1, h2, h3, h4, h5, h6⟩ := cright_iff.mp h
  obtain ⟨r1, r2, r3, r4, r5, r6⟩ := right_m hr
  have hl := len_pos y m r1 r2
  obtain ⟨hr', h1', h2', h3', h4', h5', h6'⟩ := cright_iff.mp h'
  obtain ⟨r1', r2', r3', r4', r5', r6'⟩ := right_m hr'
  have hl' := len_pos y' m' r1' r2'
  obtain ⟨a, b⟩ := List.append_inj' he rfl
  have := tail_inj (by omega) (by omega) (by omega) (by omega) (by omega) (by omega) (by omega) (by omega) (by omega) (by omega) (by omega) (by omega) (by omega) (by omega) (by omega) (by omega) (by omega) (by omega) (by omega) (by omega) b
  exact ⟨head_inj a (by omega) (by omega), this⟩
theorem of_right {t : Int} (h : oB t = true) : cright (oY t) (oMo t) (oD t) (oH t) (oMi t) (oS t) = true ∧ csec (oY t) (oMo t) (oD t) (oH t) (oMi t) (oS t) = t := by
  have hd := D_date (t / 86400 + 719468)
  have hi := date_in.mp h
  have e : t / 86400 + 719468 - 719468 = t / 86400 := by omega
  rw [e] at hd
  refine ⟨cright_iff.mpr ⟨right_mk ⟨hd.2.2.1, hd.2.2.2.1, hi.1, hi.2⟩, ?_⟩, ?_⟩
  · unfold oH oMi oS
    omega
  · unfold csec oY oMo oD oH oMi oS
    rw [hd.2.2.2.2]
    omega
theorem right_of {y m d H M S : Int} (h : cright y m d H M S = true) {t : Int} (ht : csec y m d H M S = t) : oB t = true ∧ oY t = y ∧ oMo t = m ∧ oD t = d ∧ oH t = H ∧ oMi t = M ∧ oS t = S := by
  obtain ⟨hr, h1, h2, h3, h4, h5, h6⟩ := cright_iff.mp h
  obtain ⟨r1, r2, r3, r4, r5, r6⟩ := right_m hr
  unfold csec at ht
  have q : t / 86400 = D y m d := by omega
  have s : t % 86400 = H * 3600 + M * 60 + S := by omega
  have hd := D_date (t / 86400 + 719468)
  have e : t / 86400 + 719468 - 719468 = t / 86400 := by omega
  rw [e, q] at hd
  have hj := D_inj ⟨hd.1, hd.2.1, hd.2.2.1, hd.2.2.2.1⟩ ⟨r1, r2, r3, r4⟩ hd.2.2.2.2
  obtain ⟨j1, j2, j3⟩ := hj
  have hy : oY t = y := by unfold oY; rw [q]; exact j1
  refine ⟨?_, hy, ?_, ?_, ?_, ?_, ?_⟩
  · refine date_in.mpr ?_
    unfold oY at hy
    rw [hy]
    exact ⟨r5, r6⟩
  · unfold oMo; rw [q]; exact j2
  · unfold oD; rw [q]; exact j3
  · unfold oH; rw [s]; omega
  · unfold oMi; rw [s]; omega
  · unfold oS; rw [s]; omega
theorem cmp_lt6 {y m d H M S y' m' d' H' M' S' : Int} (h : cright y m d H M S = true) (h' : cright y' m' d' H' M' S' = true) (hlt : csec y m d H M S < csec y' m' d' H' M' S') : cmpL [y, m, d, H, M, S] [y', m', d', H', M', S'] = -1 ∧ cmpL [y', m', d', H', M', S'] [y, m, d, H, M, S] = 1 := by
  obtain ⟨hr, h1, h2, h3, h4, h5, h6⟩ := cright_iff.mp h
  obtain ⟨r1, r2, r3, r4, r5, r6⟩ := right_m hr
  obtain ⟨hr', h1', h2', h3', h4', h5', h6'⟩ := cright_iff.mp h'
  obtain ⟨r1', r2', r3', r4', r5', r6'⟩ := right_m hr'
  unfold csec at hlt
  have hD : D y m d ≤ D y' m' d' := by omega
  have b := D_year ⟨r1, r2, r3, r4⟩
  have b' := D_year ⟨r1', r2', r3', r4'⟩
  simp only [cmpL]
  by_cases a1 : y < y'
  · have : ¬ y' < y := by omega
    simp [a1, this]
  · have a2 : ¬ y' < y := by
      intro hc
      have := J_lt hc
      omega
    have a3 : y = y' := by omega
    subst a3
    by_cases b1 : m < m'
    · have : ¬ m' < m := by omega
      simp [b1, this]
    · have b2 : ¬ m' < m := by
        intro hc
        have := cum_mono y m' m r1' hc (by omega)
        unfold D at hD
        omega
      have b3 : m = m' := by omega
      subst b3
      by_cases c1 : d < d'
      · have : ¬ d' < d := by omega
        simp [c1, this]
      · have c2 : d = d' := by unfold D at hD; omega
        subst c2
        by_cases e1 : H < H'
        · have : ¬ H' < H := by omega
          simp [e1, this]
        · have e2 : H = H' := by omega
          subst e2
          by_cases f1 : M < M'
          · have : ¬ M' < M := by omega
            simp [f1, this]
          · have f2 : M = M' := by omega
            subst f2
            have g : S < S' := by omega
            have : ¬ S' < S := by omega
            simp [g, this]
theorem cmp_self (l : List Int) : cmpL l l = 0 := by
  induction l with
  | nil => rfl
  | cons x l ih => simp [cmpL, ih]
theorem of_inj {t u : Int} (ht : oB t = true) (hu : oB u = true) : cmpL [oY t, oMo t, oD t, oH t, oMi t, oS t] [oY u, oMo u, oD u, oH u, oMi u, oS u] = if t < u then -1 else if t > u then 1 else 0 := by
  obtain ⟨a, b⟩ := of_right ht
  obtain ⟨a', b'⟩ := of_right hu
  by_cases h : t < u
  · rw [if_pos h]
    exact (cmp_lt6 a a' (by omega)).1
  · rw [if_neg h]
    by_cases h2 : t > u
    · rw [if_pos h2]
      exact (cmp_lt6 a' a (by omega)).2
    · rw [if_neg h2]
      obtain rfl : t = u := by omega
      exact cmp_self _
theorem of_text {t u : Int} (ht : oB t = true) (hu : oB u = true) : textL (oY t) (oMo t) (oD t) (oH t) (oMi t) (oS t) = textL (oY u) (oMo u) (oD u) (oH u) (oMi u) (oS u) ↔ t = u := by
  obtain ⟨a, b⟩ := of_right ht
  obtain ⟨a', b'⟩ := of_right hu
  constructor
  · intro h
    obtain ⟨e1, e2, e3, e4, e5, e6⟩ := text_inj a a' h
    rw [e1, e2, e3, e4, e5, e6] at b
    omega
  · rintro rfl
    rfl
/-- A second later. -/
theorem of_next {t : Int} (h : oB t = true) (hl : ¬ (oY t = 2147483647 ∧ oMo t = 12 ∧ oD t = 31)) :
    oB (t + 1) = true ∧ ((oS t < 59 ∧ oY (t + 1) = oY t ∧ oMo (t + 1) = oMo t ∧ oD (t + 1) = oD t ∧ oH (t + 1) = oH t ∧ oMi (t + 1) = oMi t ∧ oS (t + 1) = oS t + 1) ∨
      (¬ oS t < 59 ∧ oMi t < 59 ∧ oY (t + 1) = oY t ∧ oMo (t + 1) = oMo t ∧ oD (t + 1) = oD t ∧ oH (t + 1) = oH t ∧ oMi (t + 1) = oMi t + 1 ∧ oS (t + 1) = 0) ∨
      (¬ oS t < 59 ∧ ¬ oMi t < 59 ∧ oH t < 23 ∧ oY (t + 1) = oY t ∧ oMo (t + 1) = oMo t ∧ oD (t + 1) = oD t ∧ oH (t + 1) = oH t + 1 ∧ oMi (t + 1) = 0 ∧ oS (t + 1) = 0) ∨
      (¬ oS t < 59 ∧ ¬ oMi t < 59 ∧ ¬ oH t < 23 ∧ oH (t + 1) = 0 ∧ oMi (t + 1) = 0 ∧ oS (t + 1) = 0 ∧ (oD (t + 1) = oD t + 1 ∨ oD (t + 1) = 1))) := by
  obtain ⟨a, b⟩ := of_right h
  obtain ⟨hr, h1, h2, h3, h4, h5, h6⟩ := cright_iff.mp a
  generalize oY t = y at *
  generalize oMo t = m at *
  generalize oD t = d at *
  generalize oH t = H at *
  generalize oMi t = M at *
  generalize oS t = S at *
  obtain ⟨r1, r2, r3, r4, r5, r6⟩ := right_m hr
  have go : ∀ {y' m' d' H' M' S' : Int}, rightB y' m' d' = true → 0 ≤ H' → H' < 24 → 0 ≤ M' → M' < 60 → 0 ≤ S' → S' < 60 → csec y' m' d' H' M' S' = t + 1 → oB (t + 1) = true ∧ oY (t + 1) = y' ∧ oMo (t + 1) = m' ∧ oD (t + 1) = d' ∧ oH (t + 1) = H' ∧ oMi (t + 1) = M' ∧ oS (t + 1) = S' :=
    fun a1 a2 a3 a4 a5 a6 a7 a8 => right_of (cright_iff.mpr ⟨a1, a2, a3, a4, a5, a6, a7⟩) a8
  by_cases c1 : S < 59
  · obtain ⟨z, e1, e2, e3, e4, e5, e6⟩ := go (S' := S + 1) hr h1 h2 h3 h4 (by omega) (by omega) (by unfold csec at *; omega)
    exact ⟨z, .inl ⟨c1, e1, e2, e3, e4, e5, e6⟩⟩
  · by_cases c2 : M < 59
    · obtain ⟨z, e1, e2, e3, e4, e5, e6⟩ := go (M' := M + 1) (S' := 0) hr h1 h2 (by omega) (by omega) (by omega) (by omega) (by unfold csec at *; omega)
      exact ⟨z, .inr (.inl ⟨c1, c2, e1, e2, e3, e4, e5, e6⟩)⟩
    · by_cases c3 : H < 23
      · obtain ⟨z, e1, e2, e3, e4, e5, e6⟩ := go (H' := H + 1) (M' := 0) (S' := 0) hr (by omega) (by omega) (by omega) (by omega) (by omega) (by omega) (by unfold csec at *; omega)
        exact ⟨z, .inr (.inr (.inl ⟨c1, c2, c3, e1, e2, e3, e4, e5, e6⟩))⟩
      · obtain ⟨y', m', d', r', e', hd'⟩ : ∃ y' m' d', rightB y' m' d' = true ∧ D y' m' d' = D y m d + 1 ∧ (d' = d + 1 ∨ d' = 1) := by
          by_cases hd : d < len y m
          · exact ⟨y, m, d + 1, right_mk (by omega), by unfold D; omega, .inl rfl⟩
          · have hs := cum_succ y m r1 r2
            by_cases hm : m < 12
            · have hp := len_pos y (m + 1) (by omega) (by omega)
              exact ⟨y, m + 1, 1, right_mk (by omega), by unfold D; omega, .inr rfl⟩
            · have hm12 : m = 12 := by omega
              subst hm12
              have hp := len_pos (y + 1) 1 (by omega) (by omega)
              have h13 := cum_13 y
              have hJ := J_succ y
              have c1 := cum_1 (y + 1)
              have e13 : (12 : Int) + 1 = 13 := by omega
              rw [e13] at hs
              have hl31 : len y 12 = 31 := by simp [len]
              have hy : y ≠ 2147483647 := fun hc => hl ⟨hc, rfl, by omega⟩
              exact ⟨y + 1, 1, 1, right_mk (by omega), by unfold D; omega, .inr rfl⟩
        obtain ⟨z, e1, e2, e3, e4, e5, e6⟩ := go (H' := 0) (M' := 0) (S' := 0) r' (by omega) (by omega) (by omega) (by omega) (by omega) (by omega) (by unfold csec at *; omega)
        exact ⟨z, .inr (.inr (.inr ⟨c1, c2, c3, e4, e5, e6, by rw [e3]; exact hd'⟩))⟩
end Go.Proofs.YtpmcmkobpjobbaaDoor
