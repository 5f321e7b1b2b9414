/- Contracts of number.Order, and of the document's: how two floats stand is how their keys do. -/
import Derived.Test.YtpjlhlknbaggcaaSecs2
namespace Go.Proofs.Ytpjlhlknbaggcaa.Hand
open Go.RowKit Go.Proofs.YtpjlhlknbaggcaaW.PrintWords Flt Ieee
set_option linter.unusedVariables false
set_option linter.unusedSimpArgs false
def E1 : Nat := 2200
theorem E1_eq : E1 = 2200 := rfl
attribute [irreducible] E1
def BB : Int := 2 ^ E1
theorem val_lt (x : Nat) (h : Fine x) : -BB < val x ∧ val x < BB := by
  obtain ⟨s, m, k, hr, hc⟩ := h
  obtain ⟨h1, h2, h3⟩ := hc
  have ev : val x = sg s * ((m : Int) * 2 ^ k) := by unfold val; rw [hr, V_canon]
  have hk : k ≤ 2047 := by omega
  have hb : (m : Int) * 2 ^ k < BB := by
    have e : BB = 2 ^ (E1 - k) * 2 ^ k := by unfold BB; rw [← Int.pow_add, Nat.sub_add_cancel (by rw [E1_eq]; omega)]
    rw [e]
    refine Int.mul_lt_mul_of_pos_right ?_ (pos2 k)
    have h4 : (2 : Int) ^ 53 ≤ 2 ^ (E1 - k) := by
      obtain ⟨j, hj⟩ := Nat.exists_eq_add_of_le (show 53 ≤ E1 - k by rw [E1_eq]; omega)
      rw [hj, Int.pow_add]
      have := Int.mul_le_mul_of_nonneg_left (a := 1) (b := 2 ^ j) (c := (2 : Int) ^ 53) (by have := pos2 j; omega) (by decide)
      rwa [Int.mul_one] at this
    have h5 : (2 : Int) ^ 53 = 9007199254740992 := by decide +kernel
    omega
  have hnn : (0 : Int) ≤ (m : Int) * 2 ^ k := Int.mul_nonneg (Int.natCast_nonneg _) (Int.le_of_lt (pos2 k))
  rw [ev]
  unfold sg
  cases s <;> simp <;> omega
theorem BB_pos : 0 < BB := Int.pow_pos (by decide)
open Classical in
/-- a float's number; of an infinity one that is beyond all -/
noncomputable def xv (x : Nat) : Int := if Fine x then val x else if (double.read x).neg = true then -BB else BB
theorem order_nn (x y : Nat) (hx : ¬ Nan x) (hy : ¬ Nan y) : FloatKind.f64.format.order x y = some (compare (xv x) (xv y)) := by
  have hB := BB_pos
  rcases three x with fx | ix | nx
  · rcases three y with fy | iy | ny
    · rw [fine_order x y fx fy]
      unfold xv
      rw [if_pos fx, if_pos fy]
    · have hv := val_lt x fx
      have nfy := inf_fine iy
      have fx' := fx
      obtain ⟨s, m, k, hr, hc⟩ := fx
      obtain ⟨t, ht⟩ := iy
      have e : FloatKind.f64.format.order x y = some (if t then .gt else .lt) := by
        show double.order x y = _
        unfold Format.order Datum.order
        rw [hr, ht]
      rw [e]
      unfold xv
      rw [if_pos fx', if_neg nfy, ht]
      cases t
      · simp only [Datum.neg, Bool.false_eq_true, if_false]; rw [cmp_lt hv.2]
      · simp only [Datum.neg, if_true]; rw [cmp_gt hv.1]
    · exact absurd ny hy
  · have nfx := inf_fine ix
    rcases three y with fy | iy | ny
    · have hv := val_lt y fy
      have fy' := fy
      obtain ⟨s, m, k, hr, hc⟩ := fy
      obtain ⟨t, ht⟩ := ix
      have e : FloatKind.f64.format.order x y = some (if t then .lt else .gt) := by
        show double.order x y = _
        unfold Format.order Datum.order
        rw [hr, ht]
      rw [e]
      unfold xv
      rw [if_pos fy', if_neg nfx, ht]
      cases t
      · simp only [Datum.neg, Bool.false_eq_true, if_false]; rw [cmp_gt hv.2]
      · simp only [Datum.neg, if_true]; rw [cmp_lt hv.1]
    · have nfy := inf_fine iy
      obtain ⟨s, hs⟩ := ix
      obtain ⟨t, ht⟩ := iy
      have e : FloatKind.f64.format.order x y = some (compare t.toNat s.toNat) := by
        show double.order x y = _
        unfold Format.order Datum.order
        rw [hs, ht]
      rw [e]
      unfold xv
      rw [if_neg nfx, if_neg nfy, hs, ht]
      cases s <;> cases t
      · simp only [Datum.neg, Bool.false_eq_true, if_false, cmp_eq]; decide
      · simp only [Datum.neg, Bool.false_eq_true, if_false, if_true]; rw [cmp_gt (by omega)]; decide
      · simp only [Datum.neg, Bool.false_eq_true, if_false, if_true]; rw [cmp_lt (by omega)]; decide
      · simp only [Datum.neg, if_true, cmp_eq]; decide
    · exact absurd ny hy
  · exact absurd nx hx
theorem zero_xv : xv 0 = 0 := by
  unfold xv
  rw [if_pos zero_w.1, zero_w.2]
theorem zero_nn : ¬ Nan 0 := fine_nan zero_w.1
/-- the sign of a word: minus is 0 -/
def zb (x : Nat) : Int := if 9223372036854775808 ≤ x then 0 else 1
theorem val_zero (x : Nat) (hx : x < 18446744073709551616) (h : xv x = 0) : x = 0 ∨ x = 9223372036854775808 := by
  have hB := BB_pos
  unfold xv at h
  split at h
  · rename_i hf
    obtain ⟨s, m, k, hr, hc⟩ := hf
    unfold val at h
    rw [hr, V_canon] at h
    have hm : m = 0 := by
      rcases Int.mul_eq_zero.1 h with h1 | h1
      · unfold sg at h1
        split at h1 <;> omega
      · rcases Int.mul_eq_zero.1 h1 with h2 | h2
        · omega
        · have := pos2 k
          omega
    subst hm
    unfold Format.read at hr
    rw [dbl_sign, dbl_binade, dbl_inf, dbl_least] at hr
    dsimp only at hr
    split at hr
    · have := (Datum.number.inj hr).2.1
      omega
    · split at hr
      · have := (Datum.number.inj hr).2.1
        omega
      · split at hr <;> cases hr
  · split at h <;> omega
open Classical in
noncomputable def okey (x : Nat) : Int := if Nan x then 2 * BB + 5 else 2 * xv x + (if xv x = 0 then zb x else 0)
noncomputable def ordK (x y : Nat) : Int := if okey x < okey y then -1 else if okey y < okey x then 1 else 0
theorem xv_le (x : Nat) : -BB ≤ xv x ∧ xv x ≤ BB := by
  have hB := BB_pos
  unfold xv
  split
  · rename_i h
    have := val_lt x h
    omega
  · split <;> omega
theorem zb_01 (x : Nat) : zb x = 0 ∨ zb x = 1 := by unfold zb; split <;> omega
theorem okey_nan {x : Nat} (h : Nan x) : okey x = 2 * BB + 5 := by unfold okey; rw [if_pos h]
theorem okey_nn {x : Nat} (h : ¬ Nan x) : okey x = 2 * xv x + (if xv x = 0 then zb x else 0) := by unfold okey; rw [if_neg h]
theorem okey_lt {x : Nat} (h : ¬ Nan x) : okey x < 2 * BB + 5 := by
  have := xv_le x
  have := zb_01 x
  rw [okey_nn h]
  split <;> omega
theorem ordK_lt {x y : Nat} (hx : ¬ Nan x) (hy : ¬ Nan y) (h : xv x < xv y) : ordK x y = -1 := by
  have := zb_01 x
  have := zb_01 y
  unfold ordK
  rw [okey_nn hx, okey_nn hy, if_pos (by split <;> split <;> omega)]
theorem ordK_gt {x y : Nat} (hx : ¬ Nan x) (hy : ¬ Nan y) (h : xv y < xv x) : ordK x y = 1 := by
  have := zb_01 x
  have := zb_01 y
  unfold ordK
  rw [okey_nn hx, okey_nn hy, if_neg (by split <;> split <;> omega), if_pos (by split <;> split <;> omega)]
theorem ordK_eq {x y : Nat} (hx : ¬ Nan x) (hy : ¬ Nan y) (h : xv x = xv y) (h0 : xv x ≠ 0) : ordK x y = 0 := by
  unfold ordK
  rw [okey_nn hx, okey_nn hy, ← h, if_neg h0, if_neg (by omega), if_neg (by omega)]
theorem ordK_zero {x y : Nat} (hx : ¬ Nan x) (hy : ¬ Nan y) (h : xv x = 0) (h0 : xv y = 0) : ordK x y = zb x - zb y := by
  have h1 := zb_01 x
  have h2 := zb_01 y
  unfold ordK
  rw [okey_nn hx, okey_nn hy, h, h0, if_pos rfl, if_pos rfl]
  split
  · omega
  · split <;> omega
theorem cmp_zero {x : Nat} (h : ¬ Nan x) : FloatKind.f64.format.order x 0 = some (compare (xv x) 0) := by rw [order_nn x 0 h zero_nn, zero_xv]
set_option maxHeartbeats 1000000 in
theorem signbit_c (x : Nat) (hx : x < 18446744073709551616) (w : World) : Calls Try.prog 33 #[.float .f64 x] w fun e w' => e = .returned (.bool (decide (9223372036854775808 ≤ x))) ∧ w = w' := by
  have h1 := ext_bits
  have h3 := run_bits
  by_cases h : 9223372036854775808 ≤ x
  · rw [decide_eq_true h]
    have e : IntKind.i64.wrap (x : Int) = (x : Int) - 18446744073709551616 := by rw [IntKind.wrap_i64]; omega
    have t : (x : Int) - 18446744073709551616 < 0 := by omega
    have t2 : (x : Int) < 18446744073709551616 := by omega
    go_enter Try.func33, Try.ntmps33
    go_wp2
    go_ret
    first | exact ⟨rfl, rfl⟩ | exact ⟨by simp [e, t, t2], rfl⟩
  · rw [decide_eq_false h]
    have e : IntKind.i64.wrap (x : Int) = (x : Int) := by rw [IntKind.wrap_i64]; omega
    have t : ¬ (x : Int) < 0 := by omega
    go_enter Try.func33, Try.ntmps33
    go_wp2
    go_ret
    first | exact ⟨rfl, rfl⟩ | exact ⟨by simp [e, t], rfl⟩
set_option maxHeartbeats 1000000 in
theorem sign_c (x : Nat) (hx : x < 18446744073709551616) (w : World) : Calls Try.prog 32 #[.float .f64 x] w fun e w' => e = .returned (.int .i64 (zb x)) ∧ w = w' := by
  unfold zb
  by_cases h : 9223372036854775808 ≤ x
  · rw [if_pos h]
    have e : decide (9223372036854775808 ≤ x) = true := decide_eq_true h
    go_enter Try.func32, Try.ntmps32
    go_wp2_with (go_at_call 33; refine (signbit_c x hx _).mono ?_; rintro e w1 ⟨rfl, rfl⟩)
    go_ret
    exact ⟨rfl, rfl⟩
  · rw [if_neg h]
    have e : decide (9223372036854775808 ≤ x) = false := decide_eq_false h
    go_enter Try.func32, Try.ntmps32
    go_wp2_with (go_at_call 33; refine (signbit_c x hx _).mono ?_; rintro e w1 ⟨rfl, rfl⟩)
    go_ret
    exact ⟨rfl, rfl⟩
end Go.Proofs.Ytpjlhlknbaggcaa.Hand
