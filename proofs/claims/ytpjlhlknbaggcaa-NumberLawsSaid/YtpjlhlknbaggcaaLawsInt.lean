/- The walks of the statements on whole numbers: each returns true. -/
import Derived.Test.YtpjlhlknbaggcaaShown
namespace Go.Proofs.Ytpjlhlknbaggcaa.Hand
open Go.RowKit Go.Proofs.YtpjlhlknbaggcaaW.PrintWords Flt Ieee PNumA
set_option linter.unusedVariables false
set_option linter.unusedSimpArgs false
set_option maxHeartbeats 2000000 in
theorem tells_walk (a b : Int) (w : World) (ha : Small a) (hb : Small b) : Calls Try.prog 3 #[.int .i64 a, .int .i64 b] w fun e w' => e = .returned (.bool true) ∧ Below w.heap.size w w' := by
  have A1 := Lib.hid (add_c a b ha hb)
  have A2 := Lib.hid (radd_c a b ha hb)
  have M1 := Lib.hid (mul_c a b ha hb)
  have M2 := Lib.hid (rmul_c a b ha hb)
  have D1 := Lib.hid (div_c a b ha hb)
  have D2 := Lib.hid (rdiv_c a b ha hb)
  generalize addV a b = S at *
  generalize mulV a b = M at *
  generalize divV a b = D at *
  clear ha hb
  go_enter Try.func3, Try.ntmps3
  go_wp2_with (first
    | (go_at_call 12; (with_reducible refine (shown_c _).mono ?_); rintro e w1 ⟨rfl, ⟨n1, rfl⟩⟩)
    | (go_at_call 13; (with_reducible refine (A1.out _).mono ?_); rintro e w1 ⟨rfl, ⟨n1, rfl⟩⟩)
    | (go_at_call 14; (with_reducible refine (A2.out _).mono ?_); rintro e w1 ⟨rfl, ⟨n1, rfl⟩⟩)
    | (go_at_call 15; (with_reducible refine (M1.out _).mono ?_); rintro e w1 ⟨rfl, ⟨n1, rfl⟩⟩)
    | (go_at_call 16; (with_reducible refine (M2.out _).mono ?_); rintro e w1 ⟨rfl, ⟨n1, rfl⟩⟩)
    | (go_at_call 17; (with_reducible refine (D1.out _).mono ?_); rintro e w1 ⟨rfl, ⟨n1, rfl⟩⟩)
    | (go_at_call 18; (with_reducible refine (D2.out _).mono ?_); rintro e w1 ⟨rfl, ⟨n1, rfl⟩⟩))
  go_ret
  exact ⟨rfl, (Drawn0.mk ⟨_, rfl⟩).below⟩
theorem tells_row (a b : Int) (w : World) (ha : (Lit.int .i64 a).wf = true) (hb : (Lit.int .i64 b).wf = true) : Calls Try.prog 3 #[.int .i64 a, .int .i64 b] w fun e w' => e = .returned (.bool true) ∧ Below w.heap.size w w' := tells_walk a b w (small_of ha) (small_of hb)
set_option maxHeartbeats 2000000 in
theorem divides_walk (a b : Int) (w : World) (ha : Small a) (hb : Small b) : Calls Try.prog 5 #[.int .i64 a, .int .i64 b] w fun e w' => e = .returned (.bool true) ∧ Below w.heap.size w w' := by
  have D1 := Lib.hid (div_c a b ha hb)
  by_cases h : b < 1
  · have e : divV a b = (0, 0, false) := by unfold divV; rw [if_pos h]
    rw [e] at D1
    have t1 : decide (b < 1) = true := decide_eq_true h
    clear ha hb h e
    go_enter Try.func5, Try.ntmps5
    go_wp2_with (first
      | (go_at_call 12; (with_reducible refine (shown_c _).mono ?_); rintro e w1 ⟨rfl, ⟨n1, rfl⟩⟩)
      | (go_at_call 17; (with_reducible refine (D1.out _).mono ?_); rintro e w1 ⟨rfl, ⟨n1, rfl⟩⟩))
    go_ret
    exact ⟨rfl, (Drawn0.mk ⟨_, rfl⟩).below⟩
  · have e : divV a b = (a / b, a % b, true) := by unfold divV; rw [if_neg h]
    rw [e] at D1
    have t1 : decide (b < 1) = false := decide_eq_false h
    have hd := Int.mul_ediv_add_emod a b
    have r0 := Int.emod_nonneg a (b := b) (by omega)
    have r1 := Int.emod_lt_of_pos a (b := b) (by omega)
    have hq : a < 0 → a / b < 0 := fun h1 => Int.ediv_neg_of_neg_of_pos h1 (by omega)
    have hm : a / b * b = a - a % b := by rw [Int.mul_comm]; omega
    have hbd := div_bd a b ha (by omega)
    have hw : wrap64 (a / b * b) = wrap64 (a - a % b) := by rw [hm]
    have hw2 : IntKind.i64.wrap (a / b * b) = IntKind.i64.wrap (a - a % b) := by rw [hm]
    unfold Small at ha hb
    obtain ⟨hb1, hb2⟩ := hb
    have b1 : 1 ≤ b := by omega
    obtain ⟨ha1, ha2⟩ := ha
    clear hm hd e h
    by_cases h0 : 0 ≤ a
    · have hge : decide (0 ≤ a) = true := decide_eq_true h0
      generalize a / b = Q at *
      generalize a % b = R at *
      clear hq
      go_enter Try.func5, Try.ntmps5
      go_wp2_with (first
        | (go_at_call 12; (with_reducible refine (shown_c _).mono ?_); rintro e w1 ⟨rfl, ⟨n1, rfl⟩⟩)
        | (go_at_call 17; (with_reducible refine (D1.out _).mono ?_); rintro e w1 ⟨rfl, ⟨n1, rfl⟩⟩))
      go_ret
      exact ⟨rfl, (Drawn0.mk ⟨_, rfl⟩).below⟩
    · have hge : decide (0 ≤ a) = false := decide_eq_false h0
      have hq2 := hq (by omega)
      have hq3 := decide_eq_true hq2
      generalize a / b = Q at *
      generalize a % b = R at *
      clear hq
      go_enter Try.func5, Try.ntmps5
      go_wp2_with (first
        | (go_at_call 12; (with_reducible refine (shown_c _).mono ?_); rintro e w1 ⟨rfl, ⟨n1, rfl⟩⟩)
        | (go_at_call 17; (with_reducible refine (D1.out _).mono ?_); rintro e w1 ⟨rfl, ⟨n1, rfl⟩⟩))
      go_ret
      exact ⟨rfl, (Drawn0.mk ⟨_, rfl⟩).below⟩
theorem divides_row (a b : Int) (w : World) (ha : (Lit.int .i64 a).wf = true) (hb : (Lit.int .i64 b).wf = true) : Calls Try.prog 5 #[.int .i64 a, .int .i64 b] w fun e w' => e = .returned (.bool true) ∧ Below w.heap.size w w' := divides_walk a b w (small_of ha) (small_of hb)
end Go.Proofs.Ytpjlhlknbaggcaa.Hand
