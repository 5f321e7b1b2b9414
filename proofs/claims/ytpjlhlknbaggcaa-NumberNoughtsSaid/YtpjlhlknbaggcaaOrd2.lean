/- Contracts of number.Order, and of the document's. -/
import Derived.Test.YtpjlhlknbaggcaaOrd
namespace Go.Proofs.Ytpjlhlknbaggcaa.Hand
open Go.RowKit Go.Proofs.YtpjlhlknbaggcaaW.PrintWords Flt Ieee
set_option linter.unusedVariables false
set_option linter.unusedSimpArgs false
set_option maxHeartbeats 1000000 in
theorem compare_c (x y : Nat) (hx : ¬ Nan x) (hy : ¬ Nan y) (h : ¬ (xv x = 0 ∧ xv y = 0)) (w : World) : Calls Try.prog 31 #[.float .f64 x, .float .f64 y] w fun e w' => e = .returned (.int .i64 (ordK x y)) ∧ w = w' := by
  have ox := order_nn x x hx hx
  have oy := order_nn y y hy hy
  have oxy := order_nn x y hx hy
  rw [cmp_eq] at ox oy
  have ox' : double.order x x = some .eq := ox
  have oy' : double.order y y = some .eq := oy
  rcases Int.lt_trichotomy (xv x) (xv y) with h1 | h1 | h1
  · rw [ordK_lt hx hy h1]
    rw [cmp_lt h1] at oxy
    clear hx hy h h1
    go_enter Try.func31, Try.ntmps31
    go_wp2_with (first | (go_at_call 38; refine (cmpnan_c x _).mono ?_; rintro e w1 ⟨rfl, rfl⟩) | (go_at_call 38; refine (cmpnan_c y _).mono ?_; rintro e w1 ⟨rfl, rfl⟩))
    go_ret
    exact ⟨rfl, rfl⟩
  · rw [ordK_eq hx hy h1 (fun h2 => h ⟨h2, h1 ▸ h2⟩)]
    rw [h1, cmp_eq] at oxy
    clear hx hy h h1
    go_enter Try.func31, Try.ntmps31
    go_wp2_with (first | (go_at_call 38; refine (cmpnan_c x _).mono ?_; rintro e w1 ⟨rfl, rfl⟩) | (go_at_call 38; refine (cmpnan_c y _).mono ?_; rintro e w1 ⟨rfl, rfl⟩))
    go_ret
    exact ⟨rfl, rfl⟩
  · rw [ordK_gt hx hy h1]
    rw [cmp_gt h1] at oxy
    clear hx hy h h1
    go_enter Try.func31, Try.ntmps31
    go_wp2_with (first | (go_at_call 38; refine (cmpnan_c x _).mono ?_; rintro e w1 ⟨rfl, rfl⟩) | (go_at_call 38; refine (cmpnan_c y _).mono ?_; rintro e w1 ⟨rfl, rfl⟩))
    go_ret
    exact ⟨rfl, rfl⟩
theorem ordK_nn (x y : Nat) (hx : Nan x) (hy : Nan y) : ordK x y = 0 := by
  unfold ordK
  rw [okey_nan hx, okey_nan hy, if_neg (by omega), if_neg (by omega)]
theorem ordK_n1 (x y : Nat) (hx : Nan x) (hy : ¬ Nan y) : ordK x y = 1 := by
  have := okey_lt hy
  unfold ordK
  rw [okey_nan hx, if_neg (by omega), if_pos (by omega)]
theorem ordK_n2 (x y : Nat) (hx : ¬ Nan x) (hy : Nan y) : ordK x y = -1 := by
  have := okey_lt hx
  unfold ordK
  rw [okey_nan hy, if_pos (by omega)]
theorem nan_bool {x : Nat} (h : Nan x) : (double.order x x != some .eq) = true := by rw [nan_order x h x]; rfl
theorem nn_bool {x : Nat} (h : ¬ Nan x) : (double.order x x != some .eq) = false := by
  have := order_nn x x h h
  rw [cmp_eq] at this
  have h2 : double.order x x = some .eq := this
  rw [h2]
  rfl
set_option maxHeartbeats 2000000 in
theorem order_c (x y : Nat) (lx : x < 18446744073709551616) (ly : y < 18446744073709551616) (w : World) : Calls Try.prog 23 #[.float .f64 x, .float .f64 y] w fun e w' => e = .returned (.int .i64 (ordK x y)) ∧ w = w' := by
  by_cases hx : Nan x
  · have bx := nan_bool hx
    by_cases hy : Nan y
    · have b_y := nan_bool hy
      rw [ordK_nn x y hx hy]
      clear hx hy
      (go_enter Try.func23, Try.ntmps23; go_wp2_with (first | (go_at_call 29; refine (isnan_c x _).mono ?_; rintro e w1 ⟨rfl, rfl⟩) | (go_at_call 29; refine (isnan_c y _).mono ?_; rintro e w2 ⟨rfl, rfl⟩)); go_ret; exact ⟨rfl, rfl⟩)
    · have b_y := nn_bool hy
      rw [ordK_n1 x y hx hy]
      clear hx hy
      (go_enter Try.func23, Try.ntmps23; go_wp2_with (first | (go_at_call 29; refine (isnan_c x _).mono ?_; rintro e w1 ⟨rfl, rfl⟩) | (go_at_call 29; refine (isnan_c y _).mono ?_; rintro e w2 ⟨rfl, rfl⟩)); go_ret; exact ⟨rfl, rfl⟩)
  · have bx := nn_bool hx
    by_cases hy : Nan y
    · have b_y := nan_bool hy
      rw [ordK_n2 x y hx hy]
      clear hx hy
      (go_enter Try.func23, Try.ntmps23; go_wp2_with (first | (go_at_call 29; refine (isnan_c x _).mono ?_; rintro e w1 ⟨rfl, rfl⟩) | (go_at_call 29; refine (isnan_c y _).mono ?_; rintro e w2 ⟨rfl, rfl⟩)); go_ret; exact ⟨rfl, rfl⟩)
    · have b_y := nn_bool hy
      have zx := cmp_zero hx
      have zy := cmp_zero hy
      by_cases h0 : xv x = 0
      · rw [h0, cmp_eq] at zx
        by_cases h1 : xv y = 0
        · rw [h1, cmp_eq] at zy
          rw [ordK_zero hx hy h0 h1]
          have b1 := zb_01 x
          have b2 := zb_01 y
          have b3 : 0 ≤ zb x ∧ zb x ≤ 1 ∧ 0 ≤ zb y ∧ zb y ≤ 1 := by omega
          obtain ⟨b3, b4, b5, b6⟩ := b3
          clear hx hy h0 h1 b1 b2
          (go_enter Try.func23, Try.ntmps23; go_wp2_with (first | (go_at_call 29; refine (isnan_c x _).mono ?_; rintro e w1 ⟨rfl, rfl⟩) | (go_at_call 29; refine (isnan_c y _).mono ?_; rintro e w2 ⟨rfl, rfl⟩) | (go_at_call 32; refine (sign_c x lx _).mono ?_; rintro e w3 ⟨rfl, rfl⟩) | (go_at_call 32; refine (sign_c y ly _).mono ?_; rintro e w4 ⟨rfl, rfl⟩)); go_ret; exact ⟨rfl, rfl⟩)
        · have hz : FloatKind.f64.format.order y 0 = some .lt ∨ FloatKind.f64.format.order y 0 = some .gt := by
            rcases Int.lt_trichotomy (xv y) 0 with h2 | h2 | h2
            · exact .inl (by rw [zy, cmp_lt h2])
            · exact absurd h2 h1
            · exact .inr (by rw [zy, cmp_gt h2])
          have HC := fun W => compare_c x y hx hy (fun h => h1 h.2) W
          have HC := Lib.hid HC
          clear zy hx hy h0 h1
          rcases hz with hz | hz
          all_goals (go_enter Try.func23, Try.ntmps23; go_wp2_with (first | (go_at_call 29; refine (isnan_c x _).mono ?_; rintro e w1 ⟨rfl, rfl⟩) | (go_at_call 29; refine (isnan_c y _).mono ?_; rintro e w2 ⟨rfl, rfl⟩) | (go_at_call 31; refine (HC.out _).mono ?_; rintro e w3 ⟨rfl, rfl⟩)); go_ret; exact ⟨rfl, rfl⟩)
      · have hz : FloatKind.f64.format.order x 0 = some .lt ∨ FloatKind.f64.format.order x 0 = some .gt := by
          rcases Int.lt_trichotomy (xv x) 0 with h2 | h2 | h2
          · exact .inl (by rw [zx, cmp_lt h2])
          · exact absurd h2 h0
          · exact .inr (by rw [zx, cmp_gt h2])
        have HC := fun W => compare_c x y hx hy (fun h => h0 h.1) W
        have HC := Lib.hid HC
        clear zx zy hx hy h0
        rcases hz with hz | hz
        all_goals (go_enter Try.func23, Try.ntmps23; go_wp2_with (first | (go_at_call 29; refine (isnan_c x _).mono ?_; rintro e w1 ⟨rfl, rfl⟩) | (go_at_call 29; refine (isnan_c y _).mono ?_; rintro e w2 ⟨rfl, rfl⟩) | (go_at_call 31; refine (HC.out _).mono ?_; rintro e w3 ⟨rfl, rfl⟩)); go_ret; exact ⟨rfl, rfl⟩)
set_option maxHeartbeats 1000000 in
theorem rank_c (x : Nat) (r : Int) (h : (double.order x x != some .eq) = decide (r = 1)) (hr : r = 0 ∨ r = 1) (w : World) : Calls Try.prog 34 #[.float .f64 x] w fun e w' => e = .returned (.int .i64 r) ∧ w = w' := by
  have h2 : (FloatKind.f64.format.order x x != some .eq) = decide (r = 1) := h
  rcases hr with hr | hr
  · subst hr
    have h3 : (FloatKind.f64.format.order x x != some .eq) = false := h2.trans (by decide)
    clear h h2
    go_enter Try.func34, Try.ntmps34
    go_wp2
    go_ret
    exact ⟨rfl, rfl⟩
  · subst hr
    have h3 : (FloatKind.f64.format.order x x != some .eq) = true := h2.trans (by decide)
    clear h h2
    go_enter Try.func34, Try.ntmps34
    go_wp2
    go_ret
    exact ⟨rfl, rfl⟩
theorem quo_plus (w : World) : (binOp .quo 28 (.float .f64 4607182418800017408) (.float .f64 0)).run Try.prog w = .ok (.float .f64 9218868437227405312) w := run_float_arith w .quo 28 .f64 _ _ _ (by decide +kernel)
theorem quo_minus (w : World) : (binOp .quo 28 (.float .f64 4607182418800017408) (.float .f64 9223372036854775808)).run Try.prog w = .ok (.float .f64 18442240474082181120) w := run_float_arith w .quo 28 .f64 _ _ _ (by decide +kernel)
theorem inf_plus : FloatKind.f64.format.order 9218868437227405312 0 = some .gt := by decide +kernel
theorem inf_minus : FloatKind.f64.format.order 18442240474082181120 0 = some .lt := by decide +kernel
theorem rank_nan (x : Nat) (h : Nan x) : ∀ W, Calls Try.prog 34 #[.float .f64 x] W fun e w' => e = .returned (.int .i64 1) ∧ W = w' := fun W => rank_c x 1 ((nan_bool h).trans (by decide)) (.inr rfl) W
theorem rank_nn (x : Nat) (h : ¬ Nan x) : ∀ W, Calls Try.prog 34 #[.float .f64 x] W fun e w' => e = .returned (.int .i64 0) ∧ W = w' := fun W => rank_c x 0 ((nn_bool h).trans (by decide)) (.inl rfl) W
theorem zb_zero : zb 0 = 1 := by decide
theorem zb_minus : zb 9223372036854775808 = 0 := by decide
set_option maxHeartbeats 2000000 in
theorem rorder_c (x y : Nat) (lx : x < 18446744073709551616) (ly : y < 18446744073709551616) (w : World) : Calls Try.prog 24 #[.float .f64 x, .float .f64 y] w fun e w' => e = .returned (.int .i64 (ordK x y)) ∧ w = w' := by
  by_cases hx : Nan x
  · have HX := Lib.hid (rank_nan x hx)
    by_cases hy : Nan y
    · have HY := Lib.hid (rank_nan y hy)
      rw [ordK_nn x y hx hy]
      clear hx hy
      (go_enter Try.func24, Try.ntmps24; go_wp2_with (first | (go_at_call 34; refine (HX.out _).mono ?_; rintro e w1 ⟨rfl, rfl⟩) | (go_at_call 34; refine (HY.out _).mono ?_; rintro e w1 ⟨rfl, rfl⟩)); go_ret; exact ⟨rfl, rfl⟩)
    · have HY := Lib.hid (rank_nn y hy)
      rw [ordK_n1 x y hx hy]
      clear hx hy
      (go_enter Try.func24, Try.ntmps24; go_wp2_with (first | (go_at_call 34; refine (HX.out _).mono ?_; rintro e w1 ⟨rfl, rfl⟩) | (go_at_call 34; refine (HY.out _).mono ?_; rintro e w1 ⟨rfl, rfl⟩)); go_ret; exact ⟨rfl, rfl⟩)
  · have HX := Lib.hid (rank_nn x hx)
    by_cases hy : Nan y
    · have HY := Lib.hid (rank_nan y hy)
      rw [ordK_n2 x y hx hy]
      clear hx hy
      (go_enter Try.func24, Try.ntmps24; go_wp2_with (first | (go_at_call 34; refine (HX.out _).mono ?_; rintro e w1 ⟨rfl, rfl⟩) | (go_at_call 34; refine (HY.out _).mono ?_; rintro e w1 ⟨rfl, rfl⟩)); go_ret; exact ⟨rfl, rfl⟩)
    · have HY := Lib.hid (rank_nn y hy)
      have oxy := order_nn x y hx hy
      have zx := cmp_zero hx
      have zy := cmp_zero hy
      rcases Int.lt_trichotomy (xv x) (xv y) with h1 | h1 | h1
      · rw [ordK_lt hx hy h1]
        rw [cmp_lt h1] at oxy
        clear hx hy h1 zx zy
        (go_enter Try.func24, Try.ntmps24; go_wp2_with (first | (go_at_call 34; refine (HX.out _).mono ?_; rintro e w1 ⟨rfl, rfl⟩) | (go_at_call 34; refine (HY.out _).mono ?_; rintro e w1 ⟨rfl, rfl⟩)); go_ret; exact ⟨rfl, rfl⟩)
      · rw [h1, cmp_eq] at oxy
        by_cases h0 : xv x = 0
        · have h0' : xv y = 0 := h1 ▸ h0
          rw [ordK_zero hx hy h0 h0']
          have q1 := quo_plus
          have q2 := quo_minus
          have i1 := inf_plus
          have i2 := inf_minus
          have k1 := zb_zero
          have k2 := zb_minus
          rw [h0, cmp_eq] at zx
          rw [h0', cmp_eq] at zy
          rcases val_zero x lx h0 with e1 | e1 <;> rcases val_zero y ly h0' with e2 | e2 <;> subst e1 <;> subst e2 <;> clear hx hy h0 h0' h1 lx ly
          · rw [k1]; (go_enter Try.func24, Try.ntmps24; go_wp2_with (first | (go_at_call 34; refine (HX.out _).mono ?_; rintro e w1 ⟨rfl, rfl⟩) | (go_at_call 34; refine (HY.out _).mono ?_; rintro e w1 ⟨rfl, rfl⟩)); go_ret; exact ⟨rfl, rfl⟩)
          · rw [k1, k2]; (go_enter Try.func24, Try.ntmps24; go_wp2_with (first | (go_at_call 34; refine (HX.out _).mono ?_; rintro e w1 ⟨rfl, rfl⟩) | (go_at_call 34; refine (HY.out _).mono ?_; rintro e w1 ⟨rfl, rfl⟩)); go_ret; exact ⟨rfl, rfl⟩)
          · rw [k1, k2]; (go_enter Try.func24, Try.ntmps24; go_wp2_with (first | (go_at_call 34; refine (HX.out _).mono ?_; rintro e w1 ⟨rfl, rfl⟩) | (go_at_call 34; refine (HY.out _).mono ?_; rintro e w1 ⟨rfl, rfl⟩)); go_ret; exact ⟨rfl, rfl⟩)
          · rw [k2]; (go_enter Try.func24, Try.ntmps24; go_wp2_with (first | (go_at_call 34; refine (HX.out _).mono ?_; rintro e w1 ⟨rfl, rfl⟩) | (go_at_call 34; refine (HY.out _).mono ?_; rintro e w1 ⟨rfl, rfl⟩)); go_ret; exact ⟨rfl, rfl⟩)
        · rw [ordK_eq hx hy h1 h0]
          have hz : FloatKind.f64.format.order x 0 = some .lt ∨ FloatKind.f64.format.order x 0 = some .gt := by
            rcases Int.lt_trichotomy (xv x) 0 with h2 | h2 | h2
            · exact .inl (by rw [zx, cmp_lt h2])
            · exact absurd h2 h0
            · exact .inr (by rw [zx, cmp_gt h2])
          have hz2 : FloatKind.f64.format.order y 0 = some .lt ∨ FloatKind.f64.format.order y 0 = some .gt := by
            rcases Int.lt_trichotomy (xv y) 0 with h2 | h2 | h2
            · exact .inl (by rw [zy, cmp_lt h2])
            · exact absurd (h1.trans h2) h0
            · exact .inr (by rw [zy, cmp_gt h2])
          clear hx hy h1 h0 zx zy
          rcases hz with hz | hz <;> rcases hz2 with hz2 | hz2
          all_goals (go_enter Try.func24, Try.ntmps24; go_wp2_with (first | (go_at_call 34; refine (HX.out _).mono ?_; rintro e w1 ⟨rfl, rfl⟩) | (go_at_call 34; refine (HY.out _).mono ?_; rintro e w1 ⟨rfl, rfl⟩)); go_ret; exact ⟨rfl, rfl⟩)
      · rw [ordK_gt hx hy h1]
        rw [cmp_gt h1] at oxy
        clear hx hy h1 zx zy
        (go_enter Try.func24, Try.ntmps24; go_wp2_with (first | (go_at_call 34; refine (HX.out _).mono ?_; rintro e w1 ⟨rfl, rfl⟩) | (go_at_call 34; refine (HY.out _).mono ?_; rintro e w1 ⟨rfl, rfl⟩)); go_ret; exact ⟨rfl, rfl⟩)
end Go.Proofs.Ytpjlhlknbaggcaa.Hand
