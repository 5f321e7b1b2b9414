/- The walks of two more statements on floats: each returns true. -/
import Derived.Test.YtpjlhlknbaggcaaLawsFl2
namespace Go.Proofs.Ytpjlhlknbaggcaa.Hand
open Go.RowKit Go.Proofs.YtpjlhlknbaggcaaW.PrintWords Flt Ieee PNumA
set_option linter.unusedVariables false
set_option linter.unusedSimpArgs false
theorem order_k (x y : Nat) (o : Int) (lx : x < 18446744073709551616) (ly : y < 18446744073709551616) (h : ordK x y = o) : ∀ w, Calls Try.prog 23 #[.float .f64 x, .float .f64 y] w fun e' w' => e' = .returned (.int .i64 o) ∧ w = w' := fun w => by
  have := order_c x y lx ly w
  rwa [h] at this
theorem ordK_m {x y : Nat} (h : okey x < okey y) : ordK x y = -1 := by unfold ordK; rw [if_pos h]
theorem ordK_p {x y : Nat} (h : okey y < okey x) : ordK x y = 1 := by unfold ordK; rw [if_neg (by omega), if_pos h]
theorem ordK_0 {x y : Nat} (h : okey x = okey y) : ordK x y = 0 := by unfold ordK; rw [if_neg (by omega), if_neg (by omega)]
theorem cv_float32 (n : Int) (W : World) : (convert 21 28 (.int .i32 n)).run Try.prog W = .ok (.float .f64 (flt n)) W :=
  run_convert_int_float (P := Try.prog) W 21 28 .i32 .f64 n (by kernel_rfl) Try.underlying28
theorem flt_lt (n : Int) : flt n < 18446744073709551616 := double.nearest_lt _ _ _
theorem xv_fine {x : Nat} (h : Fine x) : xv x = val x := by unfold xv; rw [if_pos h]
set_option maxHeartbeats 2000000 in
theorem order_walk (a b c : Nat) (n : Int) (w : World) (la : a < 18446744073709551616) (lb : b < 18446744073709551616) (lc : c < 18446744073709551616) (h1 : -2147483648 ≤ n) (h2 : n ≤ 2147483647) :
    Calls Try.prog 7 #[.float .f64 a, .float .f64 b, .float .f64 c, .int .i32 n] w fun e w' => e = .returned (.bool true) ∧ Below w.heap.size w w' := by
  obtain ⟨g1, g2⟩ := flt_small n (by omega) (by omega)
  obtain ⟨r, a1, f1, v1⟩ := add_val (flt n) 4607182418800017408 g1 one_w.1 (by
    rw [g2, one_w.2]
    have e : n * SS + SS = (n + 1) * SS := by rw [Int.add_mul, Int.one_mul]
    rw [e]
    exact fits_whole _ (by omega) (by omega))
  have ra1 := fun V => run_float_arith (P := Try.prog) V .add 28 .f64 (flt n) 4607182418800017408 r a1
  have lr : r < 18446744073709551616 := double.add_lt a1
  have hS := SS_pos
  have Knn := Lib.hid (order_k (flt n) r (-1) (flt_lt n) lr (ordK_lt (fine_nan g1) (fine_nan f1) (by rw [xv_fine g1, xv_fine f1, v1, one_w.2]; omega)))
  have hcv := cv_float32 n
  generalize flt n = F at *
  have Kaa := Lib.hid (order_k a a 0 la la (ordK_0 rfl))
  clear g1 g2 a1 f1 v1 hS lr h1 h2
  rcases Int.lt_trichotomy (okey a) (okey b) with h | h | h
  · have Kab := Lib.hid (order_k a b (-1) la lb (ordK_m h))
    have Kba := Lib.hid (order_k b a 1 lb la (ordK_p h))
    rcases Int.lt_trichotomy (okey b) (okey c) with h' | h' | h'
    · have Kbc := Lib.hid (order_k b c (-1) lb lc (ordK_m h'))
      have Kac := Lib.hid (order_k a c (-1) la lc (ordK_m (by omega)))
      clear h h' la lb lc
      (go_enter Try.func7, Try.ntmps7; go_wp2_with (first | (go_at_call 12; (with_reducible refine (shown_c _).mono ?_); rintro e w1 ⟨rfl, ⟨n1, rfl⟩⟩) | (go_at_call 23; (with_reducible refine (Kab.out _).mono ?_); rintro e w1 ⟨rfl, rfl⟩) | (go_at_call 23; (with_reducible refine (Kbc.out _).mono ?_); rintro e w1 ⟨rfl, rfl⟩) | (go_at_call 23; (with_reducible refine (Kac.out _).mono ?_); rintro e w1 ⟨rfl, rfl⟩) | (go_at_call 23; (with_reducible refine (Kba.out _).mono ?_); rintro e w1 ⟨rfl, rfl⟩) | (go_at_call 23; (with_reducible refine (Kaa.out _).mono ?_); rintro e w1 ⟨rfl, rfl⟩) | (go_at_call 23; (with_reducible refine (Knn.out _).mono ?_); rintro e w1 ⟨rfl, rfl⟩)); go_ret; exact ⟨rfl, (Drawn0.mk ⟨_, rfl⟩).below⟩)
    · have Kbc := Lib.hid (order_k b c 0 lb lc (ordK_0 h'))
      have Kac := Kbc
      clear h h' la lb lc
      (go_enter Try.func7, Try.ntmps7; go_wp2_with (first | (go_at_call 12; (with_reducible refine (shown_c _).mono ?_); rintro e w1 ⟨rfl, ⟨n1, rfl⟩⟩) | (go_at_call 23; (with_reducible refine (Kab.out _).mono ?_); rintro e w1 ⟨rfl, rfl⟩) | (go_at_call 23; (with_reducible refine (Kbc.out _).mono ?_); rintro e w1 ⟨rfl, rfl⟩) | (go_at_call 23; (with_reducible refine (Kac.out _).mono ?_); rintro e w1 ⟨rfl, rfl⟩) | (go_at_call 23; (with_reducible refine (Kba.out _).mono ?_); rintro e w1 ⟨rfl, rfl⟩) | (go_at_call 23; (with_reducible refine (Kaa.out _).mono ?_); rintro e w1 ⟨rfl, rfl⟩) | (go_at_call 23; (with_reducible refine (Knn.out _).mono ?_); rintro e w1 ⟨rfl, rfl⟩)); go_ret; exact ⟨rfl, (Drawn0.mk ⟨_, rfl⟩).below⟩)
    · have Kbc := Lib.hid (order_k b c 1 lb lc (ordK_p h'))
      have Kac := Kbc
      clear h h' la lb lc
      (go_enter Try.func7, Try.ntmps7; go_wp2_with (first | (go_at_call 12; (with_reducible refine (shown_c _).mono ?_); rintro e w1 ⟨rfl, ⟨n1, rfl⟩⟩) | (go_at_call 23; (with_reducible refine (Kab.out _).mono ?_); rintro e w1 ⟨rfl, rfl⟩) | (go_at_call 23; (with_reducible refine (Kbc.out _).mono ?_); rintro e w1 ⟨rfl, rfl⟩) | (go_at_call 23; (with_reducible refine (Kac.out _).mono ?_); rintro e w1 ⟨rfl, rfl⟩) | (go_at_call 23; (with_reducible refine (Kba.out _).mono ?_); rintro e w1 ⟨rfl, rfl⟩) | (go_at_call 23; (with_reducible refine (Kaa.out _).mono ?_); rintro e w1 ⟨rfl, rfl⟩) | (go_at_call 23; (with_reducible refine (Knn.out _).mono ?_); rintro e w1 ⟨rfl, rfl⟩)); go_ret; exact ⟨rfl, (Drawn0.mk ⟨_, rfl⟩).below⟩)
  · have Kab := Lib.hid (order_k a b 0 la lb (ordK_0 h))
    have Kba := Lib.hid (order_k b a 0 lb la (ordK_0 h.symm))
    rcases Int.lt_trichotomy (okey b) (okey c) with h' | h' | h'
    · have Kbc := Lib.hid (order_k b c (-1) lb lc (ordK_m h'))
      have Kac := Lib.hid (order_k a c (-1) la lc (ordK_m (by omega)))
      clear h h' la lb lc
      (go_enter Try.func7, Try.ntmps7; go_wp2_with (first | (go_at_call 12; (with_reducible refine (shown_c _).mono ?_); rintro e w1 ⟨rfl, ⟨n1, rfl⟩⟩) | (go_at_call 23; (with_reducible refine (Kab.out _).mono ?_); rintro e w1 ⟨rfl, rfl⟩) | (go_at_call 23; (with_reducible refine (Kbc.out _).mono ?_); rintro e w1 ⟨rfl, rfl⟩) | (go_at_call 23; (with_reducible refine (Kac.out _).mono ?_); rintro e w1 ⟨rfl, rfl⟩) | (go_at_call 23; (with_reducible refine (Kba.out _).mono ?_); rintro e w1 ⟨rfl, rfl⟩) | (go_at_call 23; (with_reducible refine (Kaa.out _).mono ?_); rintro e w1 ⟨rfl, rfl⟩) | (go_at_call 23; (with_reducible refine (Knn.out _).mono ?_); rintro e w1 ⟨rfl, rfl⟩)); go_ret; exact ⟨rfl, (Drawn0.mk ⟨_, rfl⟩).below⟩)
    · have Kbc := Lib.hid (order_k b c 0 lb lc (ordK_0 h'))
      have Kac := Lib.hid (order_k a c 0 la lc (ordK_0 (by omega)))
      clear h h' la lb lc
      (go_enter Try.func7, Try.ntmps7; go_wp2_with (first | (go_at_call 12; (with_reducible refine (shown_c _).mono ?_); rintro e w1 ⟨rfl, ⟨n1, rfl⟩⟩) | (go_at_call 23; (with_reducible refine (Kab.out _).mono ?_); rintro e w1 ⟨rfl, rfl⟩) | (go_at_call 23; (with_reducible refine (Kbc.out _).mono ?_); rintro e w1 ⟨rfl, rfl⟩) | (go_at_call 23; (with_reducible refine (Kac.out _).mono ?_); rintro e w1 ⟨rfl, rfl⟩) | (go_at_call 23; (with_reducible refine (Kba.out _).mono ?_); rintro e w1 ⟨rfl, rfl⟩) | (go_at_call 23; (with_reducible refine (Kaa.out _).mono ?_); rintro e w1 ⟨rfl, rfl⟩) | (go_at_call 23; (with_reducible refine (Knn.out _).mono ?_); rintro e w1 ⟨rfl, rfl⟩)); go_ret; exact ⟨rfl, (Drawn0.mk ⟨_, rfl⟩).below⟩)
    · have Kbc := Lib.hid (order_k b c 1 lb lc (ordK_p h'))
      have Kac := Lib.hid (order_k a c 1 la lc (ordK_p (by omega)))
      clear h h' la lb lc
      (go_enter Try.func7, Try.ntmps7; go_wp2_with (first | (go_at_call 12; (with_reducible refine (shown_c _).mono ?_); rintro e w1 ⟨rfl, ⟨n1, rfl⟩⟩) | (go_at_call 23; (with_reducible refine (Kab.out _).mono ?_); rintro e w1 ⟨rfl, rfl⟩) | (go_at_call 23; (with_reducible refine (Kbc.out _).mono ?_); rintro e w1 ⟨rfl, rfl⟩) | (go_at_call 23; (with_reducible refine (Kac.out _).mono ?_); rintro e w1 ⟨rfl, rfl⟩) | (go_at_call 23; (with_reducible refine (Kba.out _).mono ?_); rintro e w1 ⟨rfl, rfl⟩) | (go_at_call 23; (with_reducible refine (Kaa.out _).mono ?_); rintro e w1 ⟨rfl, rfl⟩) | (go_at_call 23; (with_reducible refine (Knn.out _).mono ?_); rintro e w1 ⟨rfl, rfl⟩)); go_ret; exact ⟨rfl, (Drawn0.mk ⟨_, rfl⟩).below⟩)
  · have Kab := Lib.hid (order_k a b 1 la lb (ordK_p h))
    have Kba := Lib.hid (order_k b a (-1) lb la (ordK_m h))
    rcases Int.lt_trichotomy (okey b) (okey c) with h' | h' | h'
    · have Kbc := Lib.hid (order_k b c (-1) lb lc (ordK_m h'))
      have Kac := Kbc
      clear h h' la lb lc
      (go_enter Try.func7, Try.ntmps7; go_wp2_with (first | (go_at_call 12; (with_reducible refine (shown_c _).mono ?_); rintro e w1 ⟨rfl, ⟨n1, rfl⟩⟩) | (go_at_call 23; (with_reducible refine (Kab.out _).mono ?_); rintro e w1 ⟨rfl, rfl⟩) | (go_at_call 23; (with_reducible refine (Kbc.out _).mono ?_); rintro e w1 ⟨rfl, rfl⟩) | (go_at_call 23; (with_reducible refine (Kac.out _).mono ?_); rintro e w1 ⟨rfl, rfl⟩) | (go_at_call 23; (with_reducible refine (Kba.out _).mono ?_); rintro e w1 ⟨rfl, rfl⟩) | (go_at_call 23; (with_reducible refine (Kaa.out _).mono ?_); rintro e w1 ⟨rfl, rfl⟩) | (go_at_call 23; (with_reducible refine (Knn.out _).mono ?_); rintro e w1 ⟨rfl, rfl⟩)); go_ret; exact ⟨rfl, (Drawn0.mk ⟨_, rfl⟩).below⟩)
    · have Kbc := Lib.hid (order_k b c 0 lb lc (ordK_0 h'))
      have Kac := Kbc
      clear h h' la lb lc
      (go_enter Try.func7, Try.ntmps7; go_wp2_with (first | (go_at_call 12; (with_reducible refine (shown_c _).mono ?_); rintro e w1 ⟨rfl, ⟨n1, rfl⟩⟩) | (go_at_call 23; (with_reducible refine (Kab.out _).mono ?_); rintro e w1 ⟨rfl, rfl⟩) | (go_at_call 23; (with_reducible refine (Kbc.out _).mono ?_); rintro e w1 ⟨rfl, rfl⟩) | (go_at_call 23; (with_reducible refine (Kac.out _).mono ?_); rintro e w1 ⟨rfl, rfl⟩) | (go_at_call 23; (with_reducible refine (Kba.out _).mono ?_); rintro e w1 ⟨rfl, rfl⟩) | (go_at_call 23; (with_reducible refine (Kaa.out _).mono ?_); rintro e w1 ⟨rfl, rfl⟩) | (go_at_call 23; (with_reducible refine (Knn.out _).mono ?_); rintro e w1 ⟨rfl, rfl⟩)); go_ret; exact ⟨rfl, (Drawn0.mk ⟨_, rfl⟩).below⟩)
    · have Kbc := Lib.hid (order_k b c 1 lb lc (ordK_p h'))
      have Kac := Kbc
      clear h h' la lb lc
      (go_enter Try.func7, Try.ntmps7; go_wp2_with (first | (go_at_call 12; (with_reducible refine (shown_c _).mono ?_); rintro e w1 ⟨rfl, ⟨n1, rfl⟩⟩) | (go_at_call 23; (with_reducible refine (Kab.out _).mono ?_); rintro e w1 ⟨rfl, rfl⟩) | (go_at_call 23; (with_reducible refine (Kbc.out _).mono ?_); rintro e w1 ⟨rfl, rfl⟩) | (go_at_call 23; (with_reducible refine (Kac.out _).mono ?_); rintro e w1 ⟨rfl, rfl⟩) | (go_at_call 23; (with_reducible refine (Kba.out _).mono ?_); rintro e w1 ⟨rfl, rfl⟩) | (go_at_call 23; (with_reducible refine (Kaa.out _).mono ?_); rintro e w1 ⟨rfl, rfl⟩) | (go_at_call 23; (with_reducible refine (Knn.out _).mono ?_); rintro e w1 ⟨rfl, rfl⟩)); go_ret; exact ⟨rfl, (Drawn0.mk ⟨_, rfl⟩).below⟩)
theorem order_row (a b c : Nat) (n : Int) (w : World) (h1 : (Lit.float .f64 a).wf = true) (h2 : (Lit.float .f64 b).wf = true) (h3 : (Lit.float .f64 c).wf = true) (hn : (Lit.int .i32 n).wf = true) : Calls Try.prog 7 #[.float .f64 a, .float .f64 b, .float .f64 c, .int .i32 n] w fun e w' => e = .returned (.bool true) ∧ Below w.heap.size w w' :=
  order_walk a b c n w (float_lt h1) (float_lt h2) (float_lt h3) (by have := bounds_i32 hn; omega) (by have := bounds_i32 hn; omega)
theorem mul_zero_fine (x : Nat) (h : Fine x) : double.mul x 0 = some 0 ∨ double.mul x 0 = some 9223372036854775808 := by
  obtain ⟨s, m, k, hr, hc⟩ := h
  have h0 : double.read 0 = .number false 0 ((0 : Int) - 1074) := by decide +kernel
  have hp : ∀ t : Bool, double.write (.number t 0 ((k : Int) - 1074 + ((0 : Int) - 1074))) = double.word t 0 := fun t => by
    rw [write_number, nearest_zero]
  unfold Format.mul
  rw [hr, h0]
  show (some (Datum.number (s ^^ false) (m * 0) _)).map _ = _ ∨ (some (Datum.number (s ^^ false) (m * 0) _)).map _ = _
  rw [Nat.mul_zero]
  simp only [Option.map_some]
  rw [hp]
  cases s
  · left; decide +kernel
  · right; decide +kernel
theorem mul_zero_none (x : Nat) (h : ¬ Fine x) : double.mul x 0 = none := by
  have h0 : double.read 0 = .number false 0 ((0 : Int) - 1074) := by decide +kernel
  unfold Format.mul
  rcases three x with h1 | ⟨s, h1⟩ | ⟨s, t, h1⟩
  · exact absurd h1 h
  · rw [h1, h0]
    rfl
  · rw [h1, h0]
    rfl
theorem run_mul_none (x y : Nat) (h : double.mul x y = none) (w : World) : ∃ z, Nan z ∧ z < 18446744073709551616 ∧ (binOp .mul 28 (.float .f64 x) (.float .f64 y)).run Try.prog w = .ok (.float .f64 z) w.drew := by
  have h2 : FloatKind.f64.format.mul x y = none := h
  refine ⟨_, nan_drawn (w.tape w.drawn (.nanBits .f64 x y)), by omega, ?_⟩
  simp only [binOp, Op.floatArith, h2]
  simp [Question.forced]
  rfl
theorem secs_zero {x : Nat} (h : Fine x) (h0 : val x = 0) : secs x = (0, 0) := by
  rw [secs_ok h (by rw [h0, Int.zero_ediv]; decide) (by rw [h0, Int.zero_ediv]; decide), h0, Int.zero_ediv]
set_option maxHeartbeats 2000000 in
theorem noughts_walk (f : Nat) (w : World) (lf : f < 18446744073709551616) : Calls Try.prog 8 #[.float .f64 f] w fun e w' => e = .returned (.bool true) ∧ Below w.heap.size w w' := by
  by_cases hf : Fine f
  · have q1 := quo_plus
    have q2 := quo_minus
    have i1 := inf_plus
    have i2 := inf_minus
    have fm : Fine 9223372036854775808 ∧ val 9223372036854775808 = 0 := by
      obtain ⟨a, b⟩ := fine_word true 0 0 9223372036854775808 canon0 (by decide +kernel)
      exact ⟨a, b.trans (by simp)⟩
    rcases mul_zero_fine f hf with hz | hz
    · have ra := fun V => run_float_arith (P := Try.prog) V .mul 28 .f64 f 0 0 hz
      have o1 := fine_eq zero_w.1 zero_w.1 rfl
      have K1 := Lib.hid (secs_k 0 0 0 (secs_zero zero_w.1 zero_w.2))
      have K2 := Lib.hid (order_k 0 0 0 (by decide) (by decide) (ordK_0 rfl))
      clear hf hz fm lf
      (go_enter Try.func8, Try.ntmps8; go_wp2_with (first | (go_at_call 12; (with_reducible refine (shown_c _).mono ?_); rintro e w1 ⟨rfl, ⟨n1, rfl⟩⟩) | (go_at_call 19; (with_reducible refine (K1.out _).mono ?_); rintro e w1 ⟨rfl, ⟨n1, rfl⟩⟩) | (go_at_call 23; (with_reducible refine (K2.out _).mono ?_); rintro e w1 ⟨rfl, rfl⟩)); go_ret; exact ⟨rfl, (Drawn0.mk ⟨_, rfl⟩).below⟩)
    · have ra := fun V => run_float_arith (P := Try.prog) V .mul 28 .f64 f 0 9223372036854775808 hz
      have o1 := fine_eq fm.1 fm.1 rfl
      have K1 := Lib.hid (secs_k 9223372036854775808 0 0 (secs_zero fm.1 fm.2))
      have K2 := Lib.hid (order_k 9223372036854775808 0 (-1) (by decide) (by decide) (by rw [ordK_zero (fine_nan fm.1) zero_nn (by rw [xv_fine fm.1, fm.2]) zero_xv]; decide))
      clear hf hz fm lf
      (go_enter Try.func8, Try.ntmps8; go_wp2_with (first | (go_at_call 12; (with_reducible refine (shown_c _).mono ?_); rintro e w1 ⟨rfl, ⟨n1, rfl⟩⟩) | (go_at_call 19; (with_reducible refine (K1.out _).mono ?_); rintro e w1 ⟨rfl, ⟨n1, rfl⟩⟩) | (go_at_call 23; (with_reducible refine (K2.out _).mono ?_); rintro e w1 ⟨rfl, rfl⟩)); go_ret; exact ⟨rfl, (Drawn0.mk ⟨_, rfl⟩).below⟩)
  · have hmul := Lib.hid (fun V => run_mul_none f 0 (mul_zero_none f hf) V)
    have hcase : Nan f ∨ ¬ Nan f := Classical.em _
    clear hf
    go_enter Try.func8, Try.ntmps8
    go_upto_region 2 with ((go_at_call 12; (with_reducible refine (shown_c _).mono ?_); rintro e w1 ⟨rfl, ⟨n1, rfl⟩⟩))
    refine forget_wp (fun wc => Aside0 (Drawn0 w wc)) ⟨⟨⟨_, rfl⟩⟩⟩ ?_
    rintro w7 HD
    obtain ⟨z, hz, lz, hs⟩ := hmul.out w7
    have o2' : FloatKind.f64.format.order z z = none := nan_order z hz z
    have K1 := Lib.hid (secs_k z 0 3 (secs_none (fun h => fine_nan h hz)))
    rcases hcase with hn | hn
    · have K2 := Lib.hid (order_k z f 0 lz lf (ordK_nn z f hz hn))
      clear hz hmul hn lz lf
      go_wp2_with (first | (go_at_call 19; (with_reducible refine (K1.out _).mono ?_); rintro e w1 ⟨rfl, ⟨n1, rfl⟩⟩) | (go_at_call 23; (with_reducible refine (K2.out _).mono ?_); rintro e w1 ⟨rfl, rfl⟩))
      go_ret
      exact ⟨rfl, (HD.out.step _).below⟩
    · have K2 := Lib.hid (order_k z f 1 lz lf (ordK_n1 z f hz hn))
      clear hz hmul hn lz lf
      go_wp2_with (first | (go_at_call 19; (with_reducible refine (K1.out _).mono ?_); rintro e w1 ⟨rfl, ⟨n1, rfl⟩⟩) | (go_at_call 23; (with_reducible refine (K2.out _).mono ?_); rintro e w1 ⟨rfl, rfl⟩))
      go_ret
      exact ⟨rfl, (HD.out.step _).below⟩
theorem noughts_row (f : Nat) (w : World) (h1 : (Lit.float .f64 f).wf = true) : Calls Try.prog 8 #[.float .f64 f] w fun e w' => e = .returned (.bool true) ∧ Below w.heap.size w w' := noughts_walk f w (float_lt h1)
end Go.Proofs.Ytpjlhlknbaggcaa.Hand
