/- The walk of the number statements' 'shown': what must be in any case. -/
import Derived.Test.YtpjlhlknbaggcaaOrd2
import Derived.Test.YtpjlhlknbaggcaaInts
namespace Go.Proofs.Ytpjlhlknbaggcaa.Hand
open Go.RowKit Go.Proofs.YtpjlhlknbaggcaaW.PrintWords Flt Ieee PNumA
set_option linter.unusedVariables false
set_option linter.unusedSimpArgs false
theorem add_c (a b : Int) (ha : Small a) (hb : Small b) (w : World) : Calls Try.prog 13 #[.int .i64 a, .int .i64 b] w fun e w' => e = .returned (.tuple #[.int .i64 (addV a b).1, .bool (addV a b).2]) ∧ Drawn0 w w' := number_Add.calls a b _ _ w (add_f a b ha hb)
theorem radd_c (a b : Int) (ha : Small a) (hb : Small b) (w : World) : Calls Try.prog 14 #[.int .i64 a, .int .i64 b] w fun e w' => e = .returned (.tuple #[.int .i64 (addV a b).1, .bool (addV a b).2]) ∧ Drawn0 w w' := longcaseref01_Add.calls a b _ _ w (radd_f a b ha hb)
theorem div_c (a b : Int) (ha : Small a) (hb : Small b) (w : World) : Calls Try.prog 17 #[.int .i64 a, .int .i64 b] w fun e w' => e = .returned (.tuple #[.int .i64 (divV a b).1, .int .i64 (divV a b).2.1, .bool (divV a b).2.2]) ∧ Drawn0 w w' := number_Div.calls a b _ _ _ w (div_f a b ha hb)
theorem rdiv_c (a b : Int) (ha : Small a) (hb : Small b) (w : World) : Calls Try.prog 18 #[.int .i64 a, .int .i64 b] w fun e w' => e = .returned (.tuple #[.int .i64 (divV a b).1, .int .i64 (divV a b).2.1, .bool (divV a b).2.2]) ∧ Drawn0 w w' := longcaseref01_Div.calls a b _ _ _ w (rdiv_f a b ha hb)
theorem fine_word (s : Bool) (m k x : Nat) (hc : Canon m k) (e : double.word s (k * 4503599627370496 + m) = x) : Fine x ∧ val x = sg s * ((m : Int) * 2 ^ k) := by
  have hr := read_word s m k hc
  rw [e] at hr
  refine ⟨⟨_, _, _, hr, hc⟩, ?_⟩
  unfold val
  rw [hr, V_canon]
theorem two53 : (2 : Int) ^ (1074 - 1021) = 9007199254740992 := by decide +kernel
theorem secs_half : secs 13826050856027422720 = (-1, 0) := by
  obtain ⟨hf, hv⟩ := fine_word true 4503599627370496 1021 13826050856027422720 ⟨by omega, .inr (by omega), by omega⟩ (by decide +kernel)
  have e : val 13826050856027422720 / SS = -1 := by
    rw [hv, SS_split 1021 (by omega), ← Int.mul_assoc, Int.mul_ediv_mul_of_pos_left _ _ (pos2 1021), two53]
    decide
  rw [secs_ok hf (by rw [e]; decide) (by rw [e]; decide), e]
theorem secs_great : secs 9094988921128908188 = (0, 2) := by
  obtain ⟨hf, hv⟩ := fine_word false (4503599627370496 + 9094988921128908188 % 4503599627370496) (9094988921128908188 / 4503599627370496 - 1) 9094988921128908188 ⟨by decide, .inr (by decide), by decide⟩ (by decide +kernel)
  refine secs_far hf (fun h => ?_)
  have h2 : ¬ 9223372036854775808 ≤ val 9094988921128908188 / SS := by omega
  apply h2
  rw [le_ediv, hv]
  have hk : 9094988921128908188 / 4503599627370496 - 1 = 2018 := by decide +kernel
  rw [hk, SS_over 2018 (by omega), ← Int.mul_assoc, ← Int.mul_assoc]
  refine Int.mul_le_mul_of_nonneg_right ?_ (Int.le_of_lt SS_pos)
  decide +kernel
theorem flt_shown : flt 9007199254740993 = 4845873199050653696 := by decide +kernel
theorem fltJ_shown : fltJ 9007199254740993 = false := by
  have h1 := (flt_small 9007199254740992 (by decide) (by decide)).2
  have e : flt 9007199254740992 = flt 9007199254740993 := by decide +kernel
  rw [e] at h1
  rw [fltJ_of h1]
  decide
theorem ord_shown : ordK 18442240474082181120 0 = -1 := by
  have hi : Inf 18442240474082181120 := ⟨true, by decide +kernel⟩
  refine ordK_lt (inf_nan hi) zero_nn ?_
  rw [zero_xv]
  have hB := BB_pos
  have hr : double.read 18442240474082181120 = .infinity true := by decide +kernel
  unfold xv
  rw [if_neg (inf_fine hi), hr]
  simp only [Datum.neg, if_true]
  omega
theorem neg_inf (w : World) : (Op.unary .neg (.float .f64 9218868437227405312)).run Try.prog w = .ok (.float .f64 18442240474082181120) w := rfl
theorem forget_wp {P : Program} {c : Code} {Q : Exit → Act → World → Prop} {a : Act} {W : World} (F : World → Prop) (h : F W) (k : ∀ wc, F wc → Code.wp P c Q a wc) : Code.wp P c Q a W := k W h
theorem mul_inf (w : World) : (binOp .mul 28 (.float .f64 9214871658872686752) (.float .f64 4621819117588971520)).run Try.prog w = .ok (.float .f64 9218868437227405312) w := run_float_arith w .mul 28 .f64 _ _ _ (by decide +kernel)
set_option maxHeartbeats 2000000 in
theorem shown_c (w : World) : Calls Try.prog 12 #[] w fun e w' => e = .returned (.bool true) ∧ Drawn0 w w' := by
  have K1 := Lib.hid (fun W => (show Calls _ _ _ W fun e w' => e = .returned (.tuple #[.int .i64 0, .bool false]) ∧ Drawn0 W w' from add_c 4611686018427387904 4611686018427387904 (by unfold Small; omega) (by unfold Small; omega) W))
  have K2 := Lib.hid (fun W => (show Calls _ _ _ W fun e w' => e = .returned (.tuple #[.int .i64 (-9223372036854775808), .bool true]) ∧ Drawn0 W w' from mul_c (-4294967296) 2147483648 (by unfold Small; omega) (by unfold Small; omega) W))
  have K3 := Lib.hid (fun W => (show Calls _ _ _ W fun e w' => e = .returned (.tuple #[.int .i64 (-4), .int .i64 1, .bool true]) ∧ Drawn0 W w' from div_c (-7) 2 (by unfold Small; omega) (by unfold Small; omega) W))
  have K4 := Lib.hid (fun W => secs_c 13826050856027422720 W)
  have K5 := Lib.hid (fun W => secs_c 9094988921128908188 W)
  rw [secs_half] at K4
  rw [secs_great] at K5
  have K6 := Lib.hid (fun W => float_c 9007199254740993 (by decide) W)
  rw [flt_shown, fltJ_shown] at K6
  have K7 := Lib.hid (fun W => order_c 18442240474082181120 0 (by decide) (by decide) W)
  rw [ord_shown] at K7
  have hinf : Inf 9218868437227405312 := ⟨false, by decide +kernel⟩
  have hsub := Lib.hid (fun W => run_sub_none 9218868437227405312 9218868437227405312 (inf_sub _ hinf) W)
  have KN := Lib.hid (fun (y : Nat) (hy : Nan y) W => (by have h := secs_c y W; rw [secs_none (fun h => fine_nan h hy)] at h; exact h : Calls Try.prog 19 #[.float .f64 y] W fun e w' => e = .returned (.tuple #[.int .i64 0, .int .i64 3]) ∧ Drawn0 W w'))
  have hm := mul_inf
  clear hinf
  go_enter Try.func12, Try.ntmps12
  go_upto_region 7 with (first
    | (go_at_call 13; (with_reducible refine (K1.out _).mono ?_); rintro e w1 ⟨rfl, ⟨n1, rfl⟩⟩)
    | (go_at_call 15; (with_reducible refine (K2.out _).mono ?_); rintro e w1 ⟨rfl, ⟨n2, rfl⟩⟩)
    | (go_at_call 17; (with_reducible refine (K3.out _).mono ?_); rintro e w1 ⟨rfl, ⟨n3, rfl⟩⟩)
    | (go_at_call 19; (with_reducible refine (K4.out _).mono ?_); rintro e w1 ⟨rfl, ⟨n4, rfl⟩⟩))
  refine forget_wp (fun wc => Aside0 (Drawn0 w wc)) ⟨⟨⟨_, rfl⟩⟩⟩ ?_
  rintro w7 HD
  obtain ⟨z, hz, hs⟩ := hsub.out w7
  have KZ := Lib.hid (KN.out z hz)
  clear hz hsub KN
  go_upto_region 8 with (go_at_call 19; (with_reducible refine (KZ.out _).mono ?_); rintro e w1 ⟨rfl, ⟨n1, rfl⟩⟩)
  refine forget_wp (fun wc => Aside0 (Drawn0 w wc)) ⟨HD.out.step _⟩ ?_
  clear HD hs KZ
  rintro w8 HD
  have hn := neg_inf
  go_wp2_with (first
    | (go_at_call 19; (with_reducible refine (K5.out _).mono ?_); rintro e w1 ⟨rfl, ⟨n5, rfl⟩⟩)
    | (go_at_call 21; (with_reducible refine (K6.out _).mono ?_); rintro e w1 ⟨rfl, rfl⟩)
    | (go_at_call 23; (with_reducible refine (K7.out _).mono ?_); rintro e w1 ⟨rfl, rfl⟩))
  go_ret
  exact ⟨rfl, HD.out.step _⟩
end Go.Proofs.Ytpjlhlknbaggcaa.Hand
