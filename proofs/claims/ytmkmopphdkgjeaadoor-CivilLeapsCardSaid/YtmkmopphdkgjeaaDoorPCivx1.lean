-- Written by a program of the session's out of the translation. Not trusted: Lean checks it.
import Derived.Test.YtmkmopphdkgjeaaDoorPCivx0
namespace Go.Proofs.YtmkmopphdkgjeaaDoor.PCiv
open Go.RowKit Go.Proofs.YtmkmopphdkgjeaaDoor.Hand Go.Proofs.YtmkmopphdkgjeaaDoorW.PrintWords Go.Proofs.YtmkmopphdkgjeaaDoorW.PrintLast Go.Proofs.YtmkmopphdkgjeaaDoorW.PrintMore
attribute [local go_sem] max2_int min2_int max_two min_two max_three min_three max_four min_four   -- for this text's walks alone
set_option linter.unusedVariables false
set_option linter.unusedSimpArgs false

/-! ### civil_Leap: function 16 -/
def civil_Leap.f (a0 : Int) : Option (Bool) := if (Int.tmod a0 4) = 0 then (if (Int.tmod a0 100) = 0 then (some ((Int.tmod a0 400) == 0)) else (some true)) else (some false)
set_option maxHeartbeats 8000000 in
set_option maxRecDepth 100000 in
theorem civil_Leap.calls (a0 : Int) (r : Bool) (w : World) (h : civil_Leap.f a0 = some r) : Glob w →
    Calls Tryd.prog 16 #[.int .i64 a0] w fun e w' => e = .returned (.bool r) ∧ Drawn0 w w' := by
  intro hG
  have H : (if (Int.tmod a0 4) = 0 then (if (Int.tmod a0 100) = 0 then (some ((Int.tmod a0 400) == 0)) else (some true)) else (some false)) = some r := h
  clear h
  by_cases c2 : (Int.tmod a0 4) = 0
  · rw [if_pos c2] at H
    have c2b0 : ((Int.tmod a0 4) == 0) = true := beq_iff_eq.mpr c2
    have c2b1 : ((Int.tmod a0 4) != 0) = false := bne_eq_false_iff_eq.mpr c2
    clear c2
    by_cases c3 : (Int.tmod a0 100) = 0
    · rw [if_pos c3] at H
      have c3b0 : ((Int.tmod a0 100) == 0) = true := beq_iff_eq.mpr c3
      have c3b1 : ((Int.tmod a0 100) != 0) = false := bne_eq_false_iff_eq.mpr c3
      clear c3
      obtain rfl := Option.some.inj H
      go_enter Tryd.func16, Tryd.ntmps16
      go_wp2
      go_ret
      exact ⟨by first | rfl | (simp; done) | (simp [*]; done), by repeat (first | exact Drawn0.refl _ | apply Drawn0.step)⟩
    · rw [if_neg c3] at H
      have c3b0 : ((Int.tmod a0 100) == 0) = false := beq_eq_false_iff_ne.mpr c3
      have c3b1 : ((Int.tmod a0 100) != 0) = true := bne_iff_ne.mpr c3
      obtain rfl := Option.some.inj H
      go_enter Tryd.func16, Tryd.ntmps16
      go_wp2
      go_ret
      exact ⟨by first | rfl | (simp; done) | (simp [*]; done), by repeat (first | exact Drawn0.refl _ | apply Drawn0.step)⟩
  · rw [if_neg c2] at H
    have c2b0 : ((Int.tmod a0 4) == 0) = false := beq_eq_false_iff_ne.mpr c2
    have c2b1 : ((Int.tmod a0 4) != 0) = true := bne_iff_ne.mpr c2
    obtain rfl := Option.some.inj H
    go_enter Tryd.func16, Tryd.ntmps16
    go_wp2
    go_ret
    exact ⟨by first | rfl | (simp; done) | (simp [*]; done), by repeat (first | exact Drawn0.refl _ | apply Drawn0.step)⟩

-- BY HAND: function 18 (civil_Length)

/-! ### civil_may: function 28 -/
def civil_may.f (a0 : Int) : Option (Bool) := if a0 ≥ (-2147483648) then (some (decide (a0 ≤ 2147483647))) else (some false)
set_option maxHeartbeats 8000000 in
set_option maxRecDepth 100000 in
theorem civil_may.calls (a0 : Int) (r : Bool) (w : World) (h : civil_may.f a0 = some r) : Glob w →
    Calls Tryd.prog 28 #[.int .i64 a0] w fun e w' => e = .returned (.bool r) ∧ Drawn0 w w' := by
  intro hG
  have H : (if a0 ≥ (-2147483648) then (some (decide (a0 ≤ 2147483647))) else (some false)) = some r := h
  clear h
  by_cases c2 : a0 ≥ (-2147483648)
  · rw [if_pos c2] at H
    have c2b0 : decide ((-2147483648) ≤ a0) = true := decide_eq_true c2
    clear c2
    obtain rfl := Option.some.inj H
    go_enter Tryd.func28, Tryd.ntmps28
    go_wp2
    go_ret
    exact ⟨by first | rfl | (simp; done) | (simp [*]; done), by repeat (first | exact Drawn0.refl _ | apply Drawn0.step)⟩
  · rw [if_neg c2] at H
    have c2b0 : decide ((-2147483648) ≤ a0) = false := decide_eq_false c2
    clear c2
    obtain rfl := Option.some.inj H
    go_enter Tryd.func28, Tryd.ntmps28
    go_wp2
    go_ret
    exact ⟨by first | rfl | (simp; done) | (simp [*]; done), by repeat (first | exact Drawn0.refl _ | apply Drawn0.step)⟩

/-! ### civil_Right: function 15 -/
def civil_Right.f (a0 : Int) (a1 : Int) (a2 : Int) : Option (Bool) := (civil_may.f a0).bind fun t101 => (if t101 = true then (if a2 ≥ 1 then ((civil_Length.f a0 a1).bind fun t102 => (some (decide (a2 ≤ t102)))) else (some false)) else (some false))
set_option maxHeartbeats 8000000 in
set_option maxRecDepth 100000 in
theorem civil_Right.calls (a0 : Int) (a1 : Int) (a2 : Int) (r : Bool) (w : World) (h : civil_Right.f a0 a1 a2 = some r) : Glob w →
    Calls Tryd.prog 15 #[.int .i64 a0, .int .i64 a1, .int .i64 a2] w fun e w' => e = .returned (.bool r) ∧ Drawn0 w w' := by
  intro hG
  have H : ((civil_may.f a0).bind fun t101 => (if t101 = true then (if a2 ≥ 1 then ((civil_Length.f a0 a1).bind fun t102 => (some (decide (a2 ≤ t102)))) else (some false)) else (some false))) = some r := h
  clear h
  replace H := Option.bind_eq_some_iff.mp H
  obtain ⟨t101, A40, H⟩ := H
  replace H : (if t101 = true then (if a2 ≥ 1 then ((civil_Length.f a0 a1).bind fun t102 => (some (decide (a2 ≤ t102)))) else (some false)) else (some false)) = some r := H
  have A4 := Aside0.mk A40
  clear A40
  by_cases c5 : t101 = true
  · subst c5
    have H1 : (if a2 ≥ 1 then ((civil_Length.f a0 a1).bind fun t102 => (some (decide (a2 ≤ t102)))) else (some false)) = some r := by rw [if_pos rfl] at H; exact H
    clear H
    have H := H1
    clear H1
    by_cases c6 : a2 ≥ 1
    · rw [if_pos c6] at H
      have c6b0 : decide (1 ≤ a2) = true := decide_eq_true c6
      clear c6
      replace H := Option.bind_eq_some_iff.mp H
      obtain ⟨t102, A70, H⟩ := H
      replace H : (some (decide (a2 ≤ t102))) = some r := H
      have A7 := Aside0.mk A70
      clear A70
      obtain rfl := Option.some.inj H
      go_enter Tryd.func15, Tryd.ntmps15
      go_wp2_with (first | ((with_reducible refine gate_callee (f := 28) rfl ?_); refine goesL_ (some 8) rfl rfl Tryd.func28 (by kernel_rfl) rfl #[.int .i64 a0] rfl (by (try simp only [List.map_toArray, List.map_cons, List.map_nil]); first | done | rfl | (simp only [List.length_drop, List.length_take]; rfl)) ?_; (with_reducible refine (civil_may.calls a0 true _ A4.out (by first | exact hG | exact hG.drewN _ | exact (hG.drewN _).drewN _)).mono ?_); rintro e w' ⟨rfl, ⟨nd, rfl⟩⟩; refine ⟨_, rfl, ?_⟩) | (go_at_call 18; (with_reducible refine (civil_Length.calls a0 a1 t102 _ A7.out (by first | exact hG | exact hG.drewN _ | exact (hG.drewN _).drewN _)).mono ?_); rintro e w' ⟨rfl, ⟨nd, rfl⟩⟩))
      go_ret
      exact ⟨by first | rfl | (simp; done) | (simp [*]; done), by repeat (first | exact Drawn0.refl _ | apply Drawn0.step)⟩
    · rw [if_neg c6] at H
      have c6b0 : decide (1 ≤ a2) = false := decide_eq_false c6
      clear c6
      obtain rfl := Option.some.inj H
      go_enter Tryd.func15, Tryd.ntmps15
      go_wp2_with (first | ((with_reducible refine gate_callee (f := 28) rfl ?_); refine goesL_ (some 8) rfl rfl Tryd.func28 (by kernel_rfl) rfl #[.int .i64 a0] rfl (by (try simp only [List.map_toArray, List.map_cons, List.map_nil]); first | done | rfl | (simp only [List.length_drop, List.length_take]; rfl)) ?_; (with_reducible refine (civil_may.calls a0 true _ A4.out (by first | exact hG | exact hG.drewN _ | exact (hG.drewN _).drewN _)).mono ?_); rintro e w' ⟨rfl, ⟨nd, rfl⟩⟩; refine ⟨_, rfl, ?_⟩))
      go_ret
      exact ⟨by first | rfl | (simp; done) | (simp [*]; done), by repeat (first | exact Drawn0.refl _ | apply Drawn0.step)⟩
  · replace c5 := Bool.eq_false_iff.mpr c5
    subst c5
    have H1 : (some false) = some r := by rw [if_neg (show ¬ (false = true) by decide)] at H; exact H
    clear H
    have H := H1
    clear H1
    obtain rfl := Option.some.inj H
    go_enter Tryd.func15, Tryd.ntmps15
    go_wp2_with (first | ((with_reducible refine gate_callee (f := 28) rfl ?_); refine goesL_ (some 8) rfl rfl Tryd.func28 (by kernel_rfl) rfl #[.int .i64 a0] rfl (by (try simp only [List.map_toArray, List.map_cons, List.map_nil]); first | done | rfl | (simp only [List.length_drop, List.length_take]; rfl)) ?_; (with_reducible refine (civil_may.calls a0 false _ A4.out (by first | exact hG | exact hG.drewN _ | exact (hG.drewN _).drewN _)).mono ?_); rintro e w' ⟨rfl, ⟨nd, rfl⟩⟩; refine ⟨_, rfl, ?_⟩))
    go_ret
    exact ⟨by first | rfl | (simp; done) | (simp [*]; done), by repeat (first | exact Drawn0.refl _ | apply Drawn0.step)⟩

/-! ### number_Div: function 27 -/
def number_Div.f (a0 : Int) (a1 : Int) : Option (Int × Int × Bool) := if a1 < 1 then (some (0, 0, false)) else (if a1 = 0 then (none) else (if (Int.tmod a0 a1) < 0 then (some (wrap64 ((wrap64 (Int.tdiv a0 a1)) - 1), wrap64 ((Int.tmod a0 a1) + a1), true)) else (some (wrap64 (Int.tdiv a0 a1), Int.tmod a0 a1, true))))
set_option maxHeartbeats 8000000 in
set_option maxRecDepth 100000 in
theorem number_Div.calls (a0 : Int) (a1 : Int) (r1 : Int) (r2 : Int) (r3 : Bool) (w : World) (h : number_Div.f a0 a1 = some (r1, r2, r3)) : Glob w →
    Calls Tryd.prog 27 #[.int .i64 a0, .int .i64 a1] w fun e w' => e = .returned (.tuple #[.int .i64 r1, .int .i64 r2, .bool r3]) ∧ Drawn0 w w' := by
  intro hG
  have H : (if a1 < 1 then (some (0, 0, false)) else (if a1 = 0 then (none) else (if (Int.tmod a0 a1) < 0 then (some (wrap64 ((wrap64 (Int.tdiv a0 a1)) - 1), wrap64 ((Int.tmod a0 a1) + a1), true)) else (some (wrap64 (Int.tdiv a0 a1), Int.tmod a0 a1, true))))) = some (r1, r2, r3) := h
  clear h
  by_cases c3 : a1 < 1
  · rw [if_pos c3] at H
    have c3b0 : decide (a1 < 1) = true := decide_eq_true c3
    clear c3
    simp only [Option.some.injEq, Prod.mk.injEq] at H
    obtain ⟨rfl, rfl, rfl⟩ := H
    go_enter Tryd.func27, Tryd.ntmps27
    go_wp2
    repeat (go_quiet (fail); try go_wp2)
    go_ret3
    exact ⟨by first | rfl | (simp; done) | (simp [*]; done), by repeat (first | exact Drawn0.refl _ | apply Drawn0.step)⟩
  · rw [if_neg c3] at H
    have c3b0 : decide (a1 < 1) = false := decide_eq_false c3
    clear c3
    by_cases c4 : a1 = 0
    · rw [if_pos c4] at H
      exact absurd H (by simp)
    · rw [if_neg c4] at H
      have c4b0 : (a1 == 0) = false := beq_eq_false_iff_ne.mpr c4
      have c4b1 : (a1 != 0) = true := bne_iff_ne.mpr c4
      by_cases c5 : (Int.tmod a0 a1) < 0
      · rw [if_pos c5] at H
        have c5b0 : decide ((Int.tmod a0 a1) < 0) = true := decide_eq_true c5
        clear c5
        simp only [Option.some.injEq, Prod.mk.injEq] at H
        obtain ⟨rfl, rfl, rfl⟩ := H
        go_enter Tryd.func27, Tryd.ntmps27
        go_wp2
        repeat (go_quiet (fail); try go_wp2)
        go_ret3
        exact ⟨by first | rfl | (simp; done) | (simp [*]; done), by repeat (first | exact Drawn0.refl _ | apply Drawn0.step)⟩
      · rw [if_neg c5] at H
        have c5b0 : decide ((Int.tmod a0 a1) < 0) = false := decide_eq_false c5
        clear c5
        simp only [Option.some.injEq, Prod.mk.injEq] at H
        obtain ⟨rfl, rfl, rfl⟩ := H
        go_enter Tryd.func27, Tryd.ntmps27
        go_wp2
        repeat (go_quiet (fail); try go_wp2)
        go_ret3
        exact ⟨by first | rfl | (simp; done) | (simp [*]; done), by repeat (first | exact Drawn0.refl _ | apply Drawn0.step)⟩

/-! ### civil_Days: function 13 -/
def civil_Days.f (a0 : Int) (a1 : Int) (a2 : Int) : Option (Int × Int) := (civil_Right.f a0 a1 a2).bind fun t103 => (if t103 = true then (if (wrap64 (a1 - 3)) < 0 then ((number_Div.f (wrap64 (a0 - 1)) 400).bind fun bt104 => (some (wrap64 ((wrap64 ((wrap64 ((wrap64 ((wrap64 ((wrap64 ((wrap64 ((wrap64 (bt104.1 * 146097)) + (wrap64 (bt104.2.1 * 365)))) + (wrap64 (Int.tdiv bt104.2.1 4)))) - (wrap64 (Int.tdiv bt104.2.1 100)))) + (wrap64 (Int.tdiv (wrap64 ((wrap64 (153 * (wrap64 ((wrap64 (a1 - 3)) + 12)))) + 2)) 5)))) + a2)) - 1)) - 719468), 0))) else ((number_Div.f a0 400).bind fun bt107 => (some (wrap64 ((wrap64 ((wrap64 ((wrap64 ((wrap64 ((wrap64 ((wrap64 ((wrap64 (bt107.1 * 146097)) + (wrap64 (bt107.2.1 * 365)))) + (wrap64 (Int.tdiv bt107.2.1 4)))) - (wrap64 (Int.tdiv bt107.2.1 100)))) + (wrap64 (Int.tdiv (wrap64 ((wrap64 (153 * (wrap64 (a1 - 3)))) + 2)) 5)))) + a2)) - 1)) - 719468), 0)))) else (some (0, 1)))
set_option maxHeartbeats 8000000 in
set_option maxRecDepth 100000 in
theorem civil_Days.calls (a0 : Int) (a1 : Int) (a2 : Int) (r1 : Int) (r2 : Int) (w : World) (h : civil_Days.f a0 a1 a2 = some (r1, r2)) : Glob w →
    Calls Tryd.prog 13 #[.int .i64 a0, .int .i64 a1, .int .i64 a2] w fun e w' => e = .returned (.tuple #[.int .i64 r1, .int .i64 r2]) ∧ Drawn0 w w' := by
  intro hG
  have H : ((civil_Right.f a0 a1 a2).bind fun t103 => (if t103 = true then (if (wrap64 (a1 - 3)) < 0 then ((number_Div.f (wrap64 (a0 - 1)) 400).bind fun bt104 => (some (wrap64 ((wrap64 ((wrap64 ((wrap64 ((wrap64 ((wrap64 ((wrap64 ((wrap64 (bt104.1 * 146097)) + (wrap64 (bt104.2.1 * 365)))) + (wrap64 (Int.tdiv bt104.2.1 4)))) - (wrap64 (Int.tdiv bt104.2.1 100)))) + (wrap64 (Int.tdiv (wrap64 ((wrap64 (153 * (wrap64 ((wrap64 (a1 - 3)) + 12)))) + 2)) 5)))) + a2)) - 1)) - 719468), 0))) else ((number_Div.f a0 400).bind fun bt107 => (some (wrap64 ((wrap64 ((wrap64 ((wrap64 ((wrap64 ((wrap64 ((wrap64 ((wrap64 (bt107.1 * 146097)) + (wrap64 (bt107.2.1 * 365)))) + (wrap64 (Int.tdiv bt107.2.1 4)))) - (wrap64 (Int.tdiv bt107.2.1 100)))) + (wrap64 (Int.tdiv (wrap64 ((wrap64 (153 * (wrap64 (a1 - 3)))) + 2)) 5)))) + a2)) - 1)) - 719468), 0)))) else (some (0, 1)))) = some (r1, r2) := h
  clear h
  replace H := Option.bind_eq_some_iff.mp H
  obtain ⟨t103, A40, H⟩ := H
  replace H : (if t103 = true then (if (wrap64 (a1 - 3)) < 0 then ((number_Div.f (wrap64 (a0 - 1)) 400).bind fun bt104 => (some (wrap64 ((wrap64 ((wrap64 ((wrap64 ((wrap64 ((wrap64 ((wrap64 ((wrap64 (bt104.1 * 146097)) + (wrap64 (bt104.2.1 * 365)))) + (wrap64 (Int.tdiv bt104.2.1 4)))) - (wrap64 (Int.tdiv bt104.2.1 100)))) + (wrap64 (Int.tdiv (wrap64 ((wrap64 (153 * (wrap64 ((wrap64 (a1 - 3)) + 12)))) + 2)) 5)))) + a2)) - 1)) - 719468), 0))) else ((number_Div.f a0 400).bind fun bt107 => (some (wrap64 ((wrap64 ((wrap64 ((wrap64 ((wrap64 ((wrap64 ((wrap64 ((wrap64 (bt107.1 * 146097)) + (wrap64 (bt107.2.1 * 365)))) + (wrap64 (Int.tdiv bt107.2.1 4)))) - (wrap64 (Int.tdiv bt107.2.1 100)))) + (wrap64 (Int.tdiv (wrap64 ((wrap64 (153 * (wrap64 (a1 - 3)))) + 2)) 5)))) + a2)) - 1)) - 719468), 0)))) else (some (0, 1))) = some (r1, r2) := H
  have A4 := Aside0.mk A40
  clear A40
  by_cases c5 : t103 = true
  · subst c5
    have H1 : (if (wrap64 (a1 - 3)) < 0 then ((number_Div.f (wrap64 (a0 - 1)) 400).bind fun bt104 => (some (wrap64 ((wrap64 ((wrap64 ((wrap64 ((wrap64 ((wrap64 ((wrap64 ((wrap64 (bt104.1 * 146097)) + (wrap64 (bt104.2.1 * 365)))) + (wrap64 (Int.tdiv bt104.2.1 4)))) - (wrap64 (Int.tdiv bt104.2.1 100)))) + (wrap64 (Int.tdiv (wrap64 ((wrap64 (153 * (wrap64 ((wrap64 (a1 - 3)) + 12)))) + 2)) 5)))) + a2)) - 1)) - 719468), 0))) else ((number_Div.f a0 400).bind fun bt107 => (some (wrap64 ((wrap64 ((wrap64 ((wrap64 ((wrap64 ((wrap64 ((wrap64 ((wrap64 (bt107.1 * 146097)) + (wrap64 (bt107.2.1 * 365)))) + (wrap64 (Int.tdiv bt107.2.1 4)))) - (wrap64 (Int.tdiv bt107.2.1 100)))) + (wrap64 (Int.tdiv (wrap64 ((wrap64 (153 * (wrap64 (a1 - 3)))) + 2)) 5)))) + a2)) - 1)) - 719468), 0)))) = some (r1, r2) := by rw [if_pos rfl] at H; exact H
    clear H
    have H := H1
    clear H1
    by_cases c6 : (wrap64 (a1 - 3)) < 0
    · rw [if_pos c6] at H
      have c6b0 : decide ((wrap64 (a1 - 3)) < 0) = true := decide_eq_true c6
      clear c6
      replace H := Option.bind_eq_some_iff.mp H
      obtain ⟨⟨t104, t105, t106⟩, A70, H⟩ := H
      replace H : (some (wrap64 ((wrap64 ((wrap64 ((wrap64 ((wrap64 ((wrap64 ((wrap64 ((wrap64 (t104 * 146097)) + (wrap64 (t105 * 365)))) + (wrap64 (Int.tdiv t105 4)))) - (wrap64 (Int.tdiv t105 100)))) + (wrap64 (Int.tdiv (wrap64 ((wrap64 (153 * (wrap64 ((wrap64 (a1 - 3)) + 12)))) + 2)) 5)))) + a2)) - 1)) - 719468), 0)) = some (r1, r2) := H
      have A7 := Aside0.mk A70
      clear A70
      simp only [Option.some.injEq, Prod.mk.injEq] at H
      obtain ⟨rfl, rfl⟩ := H
      go_enter Tryd.func13, Tryd.ntmps13
      go_wp2_with (first | ((with_reducible refine gate_callee (f := 15) rfl ?_); refine goesL_ (some 16) rfl rfl Tryd.func15 (by kernel_rfl) rfl #[.int .i64 a0, .int .i64 a1, .int .i64 a2] rfl (by (try simp only [List.map_toArray, List.map_cons, List.map_nil]); first | done | rfl | (simp only [List.length_drop, List.length_take]; rfl)) ?_; (with_reducible refine (civil_Right.calls a0 a1 a2 true _ A4.out (by first | exact hG | exact hG.drewN _ | exact (hG.drewN _).drewN _)).mono ?_); rintro e w' ⟨rfl, ⟨nd, rfl⟩⟩; refine ⟨_, rfl, ?_⟩) | ((with_reducible refine gate_callee (f := 27) rfl ?_); refine goesL_ (some 29) rfl rfl Tryd.func27 (by kernel_rfl) rfl #[.int .i64 (wrap64 (a0 - 1)), .int .i64 400] rfl (by (try simp only [List.map_toArray, List.map_cons, List.map_nil]); first | done | rfl | (simp only [List.length_drop, List.length_take]; rfl)) ?_; (with_reducible refine (number_Div.calls (wrap64 (a0 - 1)) 400 t104 t105 t106 _ A7.out (by first | exact hG | exact hG.drewN _ | exact (hG.drewN _).drewN _)).mono ?_); rintro e w' ⟨rfl, ⟨nd, rfl⟩⟩; refine ⟨_, rfl, ?_⟩))
      go_ret2
      exact ⟨by first | rfl | (simp; done) | (simp [*]; done), by repeat (first | exact Drawn0.refl _ | apply Drawn0.step)⟩
    · rw [if_neg c6] at H
      have c6b0 : decide ((wrap64 (a1 - 3)) < 0) = false := decide_eq_false c6
      clear c6
      replace H := Option.bind_eq_some_iff.mp H
      obtain ⟨⟨t107, t108, t109⟩, A80, H⟩ := H
      replace H : (some (wrap64 ((wrap64 ((wrap64 ((wrap64 ((wrap64 ((wrap64 ((wrap64 ((wrap64 (t107 * 146097)) + (wrap64 (t108 * 365)))) + (wrap64 (Int.tdiv t108 4)))) - (wrap64 (Int.tdiv t108 100)))) + (wrap64 (Int.tdiv (wrap64 ((wrap64 (153 * (wrap64 (a1 - 3)))) + 2)) 5)))) + a2)) - 1)) - 719468), 0)) = some (r1, r2) := H
      have A8 := Aside0.mk A80
      clear A80
      simp only [Option.some.injEq, Prod.mk.injEq] at H
      obtain ⟨rfl, rfl⟩ := H
      go_enter Tryd.func13, Tryd.ntmps13
      go_wp2_with (first | ((with_reducible refine gate_callee (f := 15) rfl ?_); refine goesL_ (some 16) rfl rfl Tryd.func15 (by kernel_rfl) rfl #[.int .i64 a0, .int .i64 a1, .int .i64 a2] rfl (by (try simp only [List.map_toArray, List.map_cons, List.map_nil]); first | done | rfl | (simp only [List.length_drop, List.length_take]; rfl)) ?_; (with_reducible refine (civil_Right.calls a0 a1 a2 true _ A4.out (by first | exact hG | exact hG.drewN _ | exact (hG.drewN _).drewN _)).mono ?_); rintro e w' ⟨rfl, ⟨nd, rfl⟩⟩; refine ⟨_, rfl, ?_⟩) | ((with_reducible refine gate_callee (f := 27) rfl ?_); refine goesL_ (some 29) rfl rfl Tryd.func27 (by kernel_rfl) rfl #[.int .i64 a0, .int .i64 400] rfl (by (try simp only [List.map_toArray, List.map_cons, List.map_nil]); first | done | rfl | (simp only [List.length_drop, List.length_take]; rfl)) ?_; (with_reducible refine (number_Div.calls a0 400 t107 t108 t109 _ A8.out (by first | exact hG | exact hG.drewN _ | exact (hG.drewN _).drewN _)).mono ?_); rintro e w' ⟨rfl, ⟨nd, rfl⟩⟩; refine ⟨_, rfl, ?_⟩))
      go_ret2
      exact ⟨by first | rfl | (simp; done) | (simp [*]; done), by repeat (first | exact Drawn0.refl _ | apply Drawn0.step)⟩
  · replace c5 := Bool.eq_false_iff.mpr c5
    subst c5
    have H1 : (some (0, 1)) = some (r1, r2) := by rw [if_neg (show ¬ (false = true) by decide)] at H; exact H
    clear H
    have H := H1
    clear H1
    simp only [Option.some.injEq, Prod.mk.injEq] at H
    obtain ⟨rfl, rfl⟩ := H
    go_enter Tryd.func13, Tryd.ntmps13
    go_wp2_with (first | ((with_reducible refine gate_callee (f := 15) rfl ?_); refine goesL_ (some 16) rfl rfl Tryd.func15 (by kernel_rfl) rfl #[.int .i64 a0, .int .i64 a1, .int .i64 a2] rfl (by (try simp only [List.map_toArray, List.map_cons, List.map_nil]); first | done | rfl | (simp only [List.length_drop, List.length_take]; rfl)) ?_; (with_reducible refine (civil_Right.calls a0 a1 a2 false _ A4.out (by first | exact hG | exact hG.drewN _ | exact (hG.drewN _).drewN _)).mono ?_); rintro e w' ⟨rfl, ⟨nd, rfl⟩⟩; refine ⟨_, rfl, ?_⟩))
    go_ret2
    exact ⟨by first | rfl | (simp; done) | (simp [*]; done), by repeat (first | exact Drawn0.refl _ | apply Drawn0.step)⟩

/-! ### civil_Yearday: function 14 -/
def civil_Yearday.f (a0 : Int) (a1 : Int) (a2 : Int) : Option (Int × Int) := (civil_Days.f a0 a1 a2).bind fun bt110 => (if bt110.2 = 0 then ((civil_Days.f a0 1 1).bind fun bt112 => (some (wrap64 (bt110.1 - bt112.1), 0))) else (some (0, bt110.2)))
set_option maxHeartbeats 8000000 in
set_option maxRecDepth 100000 in
theorem civil_Yearday.calls (a0 : Int) (a1 : Int) (a2 : Int) (r1 : Int) (r2 : Int) (w : World) (h : civil_Yearday.f a0 a1 a2 = some (r1, r2)) : Glob w →
    Calls Tryd.prog 14 #[.int .i64 a0, .int .i64 a1, .int .i64 a2] w fun e w' => e = .returned (.tuple #[.int .i64 r1, .int .i64 r2]) ∧ Drawn0 w w' := by
  intro hG
  have H : ((civil_Days.f a0 a1 a2).bind fun bt110 => (if bt110.2 = 0 then ((civil_Days.f a0 1 1).bind fun bt112 => (some (wrap64 (bt110.1 - bt112.1), 0))) else (some (0, bt110.2)))) = some (r1, r2) := h
  clear h
  replace H := Option.bind_eq_some_iff.mp H
  obtain ⟨⟨t110, t111⟩, A40, H⟩ := H
  replace H : (if t111 = 0 then ((civil_Days.f a0 1 1).bind fun bt112 => (some (wrap64 (t110 - bt112.1), 0))) else (some (0, t111))) = some (r1, r2) := H
  have A4 := Aside0.mk A40
  clear A40
  by_cases c5 : t111 = 0
  · rw [if_pos c5] at H
    have c5b0 : (t111 == 0) = true := beq_iff_eq.mpr c5
    have c5b1 : (t111 != 0) = false := bne_eq_false_iff_eq.mpr c5
    clear c5
    replace H := Option.bind_eq_some_iff.mp H
    obtain ⟨⟨t112, t113⟩, A60, H⟩ := H
    replace H : (some (wrap64 (t110 - t112), 0)) = some (r1, r2) := H
    have A6 := Aside0.mk A60
    clear A60
    simp only [Option.some.injEq, Prod.mk.injEq] at H
    obtain ⟨rfl, rfl⟩ := H
    go_enter Tryd.func14, Tryd.ntmps14
    go_wp2_with (first | ((with_reducible refine gate_callee (f := 13) rfl ?_); refine goesL_ (some 16) rfl rfl Tryd.func13 (by kernel_rfl) rfl #[.int .i64 a0, .int .i64 a1, .int .i64 a2] rfl (by (try simp only [List.map_toArray, List.map_cons, List.map_nil]); first | done | rfl | (simp only [List.length_drop, List.length_take]; rfl)) ?_; (with_reducible refine (civil_Days.calls a0 a1 a2 t110 t111 _ A4.out (by first | exact hG | exact hG.drewN _ | exact (hG.drewN _).drewN _)).mono ?_); rintro e w' ⟨rfl, ⟨nd, rfl⟩⟩; refine ⟨_, rfl, ?_⟩) | ((with_reducible refine gate_callee (f := 13) rfl ?_); refine goesL_ (some 24) rfl rfl Tryd.func13 (by kernel_rfl) rfl #[.int .i64 a0, .int .i64 1, .int .i64 1] rfl (by (try simp only [List.map_toArray, List.map_cons, List.map_nil]); first | done | rfl | (simp only [List.length_drop, List.length_take]; rfl)) ?_; (with_reducible refine (civil_Days.calls a0 1 1 t112 t113 _ A6.out (by first | exact hG | exact hG.drewN _ | exact (hG.drewN _).drewN _)).mono ?_); rintro e w' ⟨rfl, ⟨nd, rfl⟩⟩; refine ⟨_, rfl, ?_⟩))
    go_ret2
    exact ⟨by first | rfl | (simp; done) | (simp [*]; done), by repeat (first | exact Drawn0.refl _ | apply Drawn0.step)⟩
  · rw [if_neg c5] at H
    have c5b0 : (t111 == 0) = false := beq_eq_false_iff_ne.mpr c5
    have c5b1 : (t111 != 0) = true := bne_iff_ne.mpr c5
    simp only [Option.some.injEq, Prod.mk.injEq] at H
    obtain ⟨rfl, rfl⟩ := H
    go_enter Tryd.func14, Tryd.ntmps14
    go_wp2_with (first | ((with_reducible refine gate_callee (f := 13) rfl ?_); refine goesL_ (some 16) rfl rfl Tryd.func13 (by kernel_rfl) rfl #[.int .i64 a0, .int .i64 a1, .int .i64 a2] rfl (by (try simp only [List.map_toArray, List.map_cons, List.map_nil]); first | done | rfl | (simp only [List.length_drop, List.length_take]; rfl)) ?_; (with_reducible refine (civil_Days.calls a0 a1 a2 t110 t111 _ A4.out (by first | exact hG | exact hG.drewN _ | exact (hG.drewN _).drewN _)).mono ?_); rintro e w' ⟨rfl, ⟨nd, rfl⟩⟩; refine ⟨_, rfl, ?_⟩))
    go_ret2
    exact ⟨by first | rfl | (simp; done) | (simp [*]; done), by repeat (first | exact Drawn0.refl _ | apply Drawn0.step)⟩

/-! ### number_Add: function 30 -/
def number_Add.f (a0 : Int) (a1 : Int) : Option (Int × Bool) := if ((decide (a0 < 0)) == (decide (a1 < 0))) = true then (if ((decide ((wrap64 (a0 + a1)) < 0)) != (decide (a0 < 0))) = true then (some (0, false)) else (some (wrap64 (a0 + a1), true))) else (some (wrap64 (a0 + a1), true))
set_option maxHeartbeats 8000000 in
set_option maxRecDepth 100000 in
theorem number_Add.calls (a0 : Int) (a1 : Int) (r1 : Int) (r2 : Bool) (w : World) (h : number_Add.f a0 a1 = some (r1, r2)) : Glob w →
    Calls Tryd.prog 30 #[.int .i64 a0, .int .i64 a1] w fun e w' => e = .returned (.tuple #[.int .i64 r1, .bool r2]) ∧ Drawn0 w w' := by
  intro hG
  have H : (if ((decide (a0 < 0)) == (decide (a1 < 0))) = true then (if ((decide ((wrap64 (a0 + a1)) < 0)) != (decide (a0 < 0))) = true then (some (0, false)) else (some (wrap64 (a0 + a1), true))) else (some (wrap64 (a0 + a1), true))) = some (r1, r2) := h
  clear h
  by_cases c3 : ((decide (a0 < 0)) == (decide (a1 < 0))) = true
  · rw [if_pos c3] at H
    have c3b0 : ((decide (a0 < 0)) == (decide (a1 < 0))) = true := c3
    (try (have c3b1 : decide ((decide (a0 < 0)) = (decide (a1 < 0))) = true := by simpa using c3))
    (try (have c3b2 : ((decide (a0 < 0)) == (decide (a1 < 0))) = true := by simpa using c3))
    clear c3
    by_cases c4 : ((decide ((wrap64 (a0 + a1)) < 0)) != (decide (a0 < 0))) = true
    · rw [if_pos c4] at H
      have c4b0 : ((decide ((wrap64 (a0 + a1)) < 0)) != (decide (a0 < 0))) = true := c4
      (try (have c4b1 : decide ((decide ((wrap64 (a0 + a1)) < 0)) = (decide (a0 < 0))) = false := by simpa using c4))
      (try (have c4b2 : ((decide ((wrap64 (a0 + a1)) < 0)) == (decide (a0 < 0))) = false := by simpa using c4))
      (try (have c4b3 : ¬ ((decide ((wrap64 (a0 + a1)) < 0)) = (decide (a0 < 0))) := by simpa using c4))
      clear c4
      simp only [Option.some.injEq, Prod.mk.injEq] at H
      obtain ⟨rfl, rfl⟩ := H
      go_enter Tryd.func30, Tryd.ntmps30
      go_wp2
      go_ret2
      exact ⟨by first | rfl | (simp; done) | (simp [*]; done), by repeat (first | exact Drawn0.refl _ | apply Drawn0.step)⟩
    · rw [if_neg c4] at H
      have c4b0 : ((decide ((wrap64 (a0 + a1)) < 0)) != (decide (a0 < 0))) = false := by simpa using c4
      (try (have c4b1 : decide ((decide ((wrap64 (a0 + a1)) < 0)) = (decide (a0 < 0))) = true := by simpa using c4))
      (try (have c4b2 : ((decide ((wrap64 (a0 + a1)) < 0)) == (decide (a0 < 0))) = true := by simpa using c4))
      clear c4
      simp only [Option.some.injEq, Prod.mk.injEq] at H
      obtain ⟨rfl, rfl⟩ := H
      go_enter Tryd.func30, Tryd.ntmps30
      go_wp2
      go_ret2
      exact ⟨by first | rfl | (simp; done) | (simp [*]; done), by repeat (first | exact Drawn0.refl _ | apply Drawn0.step)⟩
  · rw [if_neg c3] at H
    have c3b0 : ((decide (a0 < 0)) == (decide (a1 < 0))) = false := by simpa using c3
    (try (have c3b1 : decide ((decide (a0 < 0)) = (decide (a1 < 0))) = false := by simpa using c3))
    (try (have c3b2 : ((decide (a0 < 0)) == (decide (a1 < 0))) = false := by simpa using c3))
    (try (have c3b3 : ¬ ((decide (a0 < 0)) = (decide (a1 < 0))) := by simpa using c3))
    clear c3
    simp only [Option.some.injEq, Prod.mk.injEq] at H
    obtain ⟨rfl, rfl⟩ := H
    go_enter Tryd.func30, Tryd.ntmps30
    go_wp2
    go_ret2
    exact ⟨by first | rfl | (simp; done) | (simp [*]; done), by repeat (first | exact Drawn0.refl _ | apply Drawn0.step)⟩

/-! ### civil_Date: function 22 -/
def civil_Date.f (a0 : Int) : Option (Int × Int × Int × Int) := (number_Add.f a0 719468).bind fun bt114 => (if bt114.2 = true then ((number_Div.f bt114.1 146097).bind fun bt116 => (if (wrap64 ((wrap64 (Int.tdiv (wrap64 ((wrap64 (5 * (wrap64 (bt116.2.1 - (wrap64 ((wrap64 ((wrap64 (365 * (wrap64 (Int.tdiv (wrap64 ((wrap64 ((wrap64 (bt116.2.1 - (wrap64 (Int.tdiv bt116.2.1 1460)))) + (wrap64 (Int.tdiv bt116.2.1 36524)))) - (wrap64 (Int.tdiv bt116.2.1 146096)))) 365)))) + (wrap64 (Int.tdiv (wrap64 (Int.tdiv (wrap64 ((wrap64 ((wrap64 (bt116.2.1 - (wrap64 (Int.tdiv bt116.2.1 1460)))) + (wrap64 (Int.tdiv bt116.2.1 36524)))) - (wrap64 (Int.tdiv bt116.2.1 146096)))) 365)) 4)))) - (wrap64 (Int.tdiv (wrap64 (Int.tdiv (wrap64 ((wrap64 ((wrap64 (bt116.2.1 - (wrap64 (Int.tdiv bt116.2.1 1460)))) + (wrap64 (Int.tdiv bt116.2.1 36524)))) - (wrap64 (Int.tdiv bt116.2.1 146096)))) 365)) 100)))))))) + 2)) 153)) + 3)) > 12 then ((civil_may.f (wrap64 ((wrap64 ((wrap64 (Int.tdiv (wrap64 ((wrap64 ((wrap64 (bt116.2.1 - (wrap64 (Int.tdiv bt116.2.1 1460)))) + (wrap64 (Int.tdiv bt116.2.1 36524)))) - (wrap64 (Int.tdiv bt116.2.1 146096)))) 365)) + (wrap64 (400 * bt116.1)))) + 1))).bind fun t119 => (if t119 = true then (some (wrap64 ((wrap64 ((wrap64 (Int.tdiv (wrap64 ((wrap64 ((wrap64 (bt116.2.1 - (wrap64 (Int.tdiv bt116.2.1 1460)))) + (wrap64 (Int.tdiv bt116.2.1 36524)))) - (wrap64 (Int.tdiv bt116.2.1 146096)))) 365)) + (wrap64 (400 * bt116.1)))) + 1), wrap64 ((wrap64 ((wrap64 (Int.tdiv (wrap64 ((wrap64 (5 * (wrap64 (bt116.2.1 - (wrap64 ((wrap64 ((wrap64 (365 * (wrap64 (Int.tdiv (wrap64 ((wrap64 ((wrap64 (bt116.2.1 - (wrap64 (Int.tdiv bt116.2.1 1460)))) + (wrap64 (Int.tdiv bt116.2.1 36524)))) - (wrap64 (Int.tdiv bt116.2.1 146096)))) 365)))) + (wrap64 (Int.tdiv (wrap64 (Int.tdiv (wrap64 ((wrap64 ((wrap64 (bt116.2.1 - (wrap64 (Int.tdiv bt116.2.1 1460)))) + (wrap64 (Int.tdiv bt116.2.1 36524)))) - (wrap64 (Int.tdiv bt116.2.1 146096)))) 365)) 4)))) - (wrap64 (Int.tdiv (wrap64 (Int.tdiv (wrap64 ((wrap64 ((wrap64 (bt116.2.1 - (wrap64 (Int.tdiv bt116.2.1 1460)))) + (wrap64 (Int.tdiv bt116.2.1 36524)))) - (wrap64 (Int.tdiv bt116.2.1 146096)))) 365)) 100)))))))) + 2)) 153)) + 3)) - 12), wrap64 ((wrap64 ((wrap64 (bt116.2.1 - (wrap64 ((wrap64 ((wrap64 (365 * (wrap64 (Int.tdiv (wrap64 ((wrap64 ((wrap64 (bt116.2.1 - (wrap64 (Int.tdiv bt116.2.1 1460)))) + (wrap64 (Int.tdiv bt116.2.1 36524)))) - (wrap64 (Int.tdiv bt116.2.1 146096)))) 365)))) + (wrap64 (Int.tdiv (wrap64 (Int.tdiv (wrap64 ((wrap64 ((wrap64 (bt116.2.1 - (wrap64 (Int.tdiv bt116.2.1 1460)))) + (wrap64 (Int.tdiv bt116.2.1 36524)))) - (wrap64 (Int.tdiv bt116.2.1 146096)))) 365)) 4)))) - (wrap64 (Int.tdiv (wrap64 (Int.tdiv (wrap64 ((wrap64 ((wrap64 (bt116.2.1 - (wrap64 (Int.tdiv bt116.2.1 1460)))) + (wrap64 (Int.tdiv bt116.2.1 36524)))) - (wrap64 (Int.tdiv bt116.2.1 146096)))) 365)) 100)))))) - (wrap64 (Int.tdiv (wrap64 ((wrap64 (153 * (wrap64 (Int.tdiv (wrap64 ((wrap64 (5 * (wrap64 (bt116.2.1 - (wrap64 ((wrap64 ((wrap64 (365 * (wrap64 (Int.tdiv (wrap64 ((wrap64 ((wrap64 (bt116.2.1 - (wrap64 (Int.tdiv bt116.2.1 1460)))) + (wrap64 (Int.tdiv bt116.2.1 36524)))) - (wrap64 (Int.tdiv bt116.2.1 146096)))) 365)))) + (wrap64 (Int.tdiv (wrap64 (Int.tdiv (wrap64 ((wrap64 ((wrap64 (bt116.2.1 - (wrap64 (Int.tdiv bt116.2.1 1460)))) + (wrap64 (Int.tdiv bt116.2.1 36524)))) - (wrap64 (Int.tdiv bt116.2.1 146096)))) 365)) 4)))) - (wrap64 (Int.tdiv (wrap64 (Int.tdiv (wrap64 ((wrap64 ((wrap64 (bt116.2.1 - (wrap64 (Int.tdiv bt116.2.1 1460)))) + (wrap64 (Int.tdiv bt116.2.1 36524)))) - (wrap64 (Int.tdiv bt116.2.1 146096)))) 365)) 100)))))))) + 2)) 153)))) + 2)) 5)))) + 1), 0)) else (some (0, 0, 0, 2)))) else ((civil_may.f (wrap64 ((wrap64 (Int.tdiv (wrap64 ((wrap64 ((wrap64 (bt116.2.1 - (wrap64 (Int.tdiv bt116.2.1 1460)))) + (wrap64 (Int.tdiv bt116.2.1 36524)))) - (wrap64 (Int.tdiv bt116.2.1 146096)))) 365)) + (wrap64 (400 * bt116.1))))).bind fun t120 => (if t120 = true then (some (wrap64 ((wrap64 (Int.tdiv (wrap64 ((wrap64 ((wrap64 (bt116.2.1 - (wrap64 (Int.tdiv bt116.2.1 1460)))) + (wrap64 (Int.tdiv bt116.2.1 36524)))) - (wrap64 (Int.tdiv bt116.2.1 146096)))) 365)) + (wrap64 (400 * bt116.1))), wrap64 ((wrap64 (Int.tdiv (wrap64 ((wrap64 (5 * (wrap64 (bt116.2.1 - (wrap64 ((wrap64 ((wrap64 (365 * (wrap64 (Int.tdiv (wrap64 ((wrap64 ((wrap64 (bt116.2.1 - (wrap64 (Int.tdiv bt116.2.1 1460)))) + (wrap64 (Int.tdiv bt116.2.1 36524)))) - (wrap64 (Int.tdiv bt116.2.1 146096)))) 365)))) + (wrap64 (Int.tdiv (wrap64 (Int.tdiv (wrap64 ((wrap64 ((wrap64 (bt116.2.1 - (wrap64 (Int.tdiv bt116.2.1 1460)))) + (wrap64 (Int.tdiv bt116.2.1 36524)))) - (wrap64 (Int.tdiv bt116.2.1 146096)))) 365)) 4)))) - (wrap64 (Int.tdiv (wrap64 (Int.tdiv (wrap64 ((wrap64 ((wrap64 (bt116.2.1 - (wrap64 (Int.tdiv bt116.2.1 1460)))) + (wrap64 (Int.tdiv bt116.2.1 36524)))) - (wrap64 (Int.tdiv bt116.2.1 146096)))) 365)) 100)))))))) + 2)) 153)) + 3), wrap64 ((wrap64 ((wrap64 (bt116.2.1 - (wrap64 ((wrap64 ((wrap64 (365 * (wrap64 (Int.tdiv (wrap64 ((wrap64 ((wrap64 (bt116.2.1 - (wrap64 (Int.tdiv bt116.2.1 1460)))) + (wrap64 (Int.tdiv bt116.2.1 36524)))) - (wrap64 (Int.tdiv bt116.2.1 146096)))) 365)))) + (wrap64 (Int.tdiv (wrap64 (Int.tdiv (wrap64 ((wrap64 ((wrap64 (bt116.2.1 - (wrap64 (Int.tdiv bt116.2.1 1460)))) + (wrap64 (Int.tdiv bt116.2.1 36524)))) - (wrap64 (Int.tdiv bt116.2.1 146096)))) 365)) 4)))) - (wrap64 (Int.tdiv (wrap64 (Int.tdiv (wrap64 ((wrap64 ((wrap64 (bt116.2.1 - (wrap64 (Int.tdiv bt116.2.1 1460)))) + (wrap64 (Int.tdiv bt116.2.1 36524)))) - (wrap64 (Int.tdiv bt116.2.1 146096)))) 365)) 100)))))) - (wrap64 (Int.tdiv (wrap64 ((wrap64 (153 * (wrap64 (Int.tdiv (wrap64 ((wrap64 (5 * (wrap64 (bt116.2.1 - (wrap64 ((wrap64 ((wrap64 (365 * (wrap64 (Int.tdiv (wrap64 ((wrap64 ((wrap64 (bt116.2.1 - (wrap64 (Int.tdiv bt116.2.1 1460)))) + (wrap64 (Int.tdiv bt116.2.1 36524)))) - (wrap64 (Int.tdiv bt116.2.1 146096)))) 365)))) + (wrap64 (Int.tdiv (wrap64 (Int.tdiv (wrap64 ((wrap64 ((wrap64 (bt116.2.1 - (wrap64 (Int.tdiv bt116.2.1 1460)))) + (wrap64 (Int.tdiv bt116.2.1 36524)))) - (wrap64 (Int.tdiv bt116.2.1 146096)))) 365)) 4)))) - (wrap64 (Int.tdiv (wrap64 (Int.tdiv (wrap64 ((wrap64 ((wrap64 (bt116.2.1 - (wrap64 (Int.tdiv bt116.2.1 1460)))) + (wrap64 (Int.tdiv bt116.2.1 36524)))) - (wrap64 (Int.tdiv bt116.2.1 146096)))) 365)) 100)))))))) + 2)) 153)))) + 2)) 5)))) + 1), 0)) else (some (0, 0, 0, 2)))))) else (some (0, 0, 0, 2)))
set_option maxHeartbeats 8000000 in
set_option maxRecDepth 100000 in
theorem civil_Date.calls (a0 : Int) (r1 : Int) (r2 : Int) (r3 : Int) (r4 : Int) (w : World) (h : civil_Date.f a0 = some (r1, r2, r3, r4)) : Glob w →
    Calls Tryd.prog 22 #[.int .i64 a0] w fun e w' => e = .returned (.tuple #[.int .i64 r1, .int .i64 r2, .int .i64 r3, .int .i64 r4]) ∧ Drawn0 w w' := by
  intro hG
  have H : ((number_Add.f a0 719468).bind fun bt114 => (if bt114.2 = true then ((number_Div.f bt114.1 146097).bind fun bt116 => (if (wrap64 ((wrap64 (Int.tdiv (wrap64 ((wrap64 (5 * (wrap64 (bt116.2.1 - (wrap64 ((wrap64 ((wrap64 (365 * (wrap64 (Int.tdiv (wrap64 ((wrap64 ((wrap64 (bt116.2.1 - (wrap64 (Int.tdiv bt116.2.1 1460)))) + (wrap64 (Int.tdiv bt116.2.1 36524)))) - (wrap64 (Int.tdiv bt116.2.1 146096)))) 365)))) + (wrap64 (Int.tdiv (wrap64 (Int.tdiv (wrap64 ((wrap64 ((wrap64 (bt116.2.1 - (wrap64 (Int.tdiv bt116.2.1 1460)))) + (wrap64 (Int.tdiv bt116.2.1 36524)))) - (wrap64 (Int.tdiv bt116.2.1 146096)))) 365)) 4)))) - (wrap64 (Int.tdiv (wrap64 (Int.tdiv (wrap64 ((wrap64 ((wrap64 (bt116.2.1 - (wrap64 (Int.tdiv bt116.2.1 1460)))) + (wrap64 (Int.tdiv bt116.2.1 36524)))) - (wrap64 (Int.tdiv bt116.2.1 146096)))) 365)) 100)))))))) + 2)) 153)) + 3)) > 12 then ((civil_may.f (wrap64 ((wrap64 ((wrap64 (Int.tdiv (wrap64 ((wrap64 ((wrap64 (bt116.2.1 - (wrap64 (Int.tdiv bt116.2.1 1460)))) + (wrap64 (Int.tdiv bt116.2.1 36524)))) - (wrap64 (Int.tdiv bt116.2.1 146096)))) 365)) + (wrap64 (400 * bt116.1)))) + 1))).bind fun t119 => (if t119 = true then (some (wrap64 ((wrap64 ((wrap64 (Int.tdiv (wrap64 ((wrap64 ((wrap64 (bt116.2.1 - (wrap64 (Int.tdiv bt116.2.1 1460)))) + (wrap64 (Int.tdiv bt116.2.1 36524)))) - (wrap64 (Int.tdiv bt116.2.1 146096)))) 365)) + (wrap64 (400 * bt116.1)))) + 1), wrap64 ((wrap64 ((wrap64 (Int.tdiv (wrap64 ((wrap64 (5 * (wrap64 (bt116.2.1 - (wrap64 ((wrap64 ((wrap64 (365 * (wrap64 (Int.tdiv (wrap64 ((wrap64 ((wrap64 (bt116.2.1 - (wrap64 (Int.tdiv bt116.2.1 1460)))) + (wrap64 (Int.tdiv bt116.2.1 36524)))) - (wrap64 (Int.tdiv bt116.2.1 146096)))) 365)))) + (wrap64 (Int.tdiv (wrap64 (Int.tdiv (wrap64 ((wrap64 ((wrap64 (bt116.2.1 - (wrap64 (Int.tdiv bt116.2.1 1460)))) + (wrap64 (Int.tdiv bt116.2.1 36524)))) - (wrap64 (Int.tdiv bt116.2.1 146096)))) 365)) 4)))) - (wrap64 (Int.tdiv (wrap64 (Int.tdiv (wrap64 ((wrap64 ((wrap64 (bt116.2.1 - (wrap64 (Int.tdiv bt116.2.1 1460)))) + (wrap64 (Int.tdiv bt116.2.1 36524)))) - (wrap64 (Int.tdiv bt116.2.1 146096)))) 365)) 100)))))))) + 2)) 153)) + 3)) - 12), wrap64 ((wrap64 ((wrap64 (bt116.2.1 - (wrap64 ((wrap64 ((wrap64 (365 * (wrap64 (Int.tdiv (wrap64 ((wrap64 ((wrap64 (bt116.2.1 - (wrap64 (Int.tdiv bt116.2.1 1460)))) + (wrap64 (Int.tdiv bt116.2.1 36524)))) - (wrap64 (Int.tdiv bt116.2.1 146096)))) 365)))) + (wrap64 (Int.tdiv (wrap64 (Int.tdiv (wrap64 ((wrap64 ((wrap64 (bt116.2.1 - (wrap64 (Int.tdiv bt116.2.1 1460)))) + (wrap64 (Int.tdiv bt116.2.1 36524)))) - (wrap64 (Int.tdiv bt116.2.1 146096)))) 365)) 4)))) - (wrap64 (Int.tdiv (wrap64 (Int.tdiv (wrap64 ((wrap64 ((wrap64 (bt116.2.1 - (wrap64 (Int.tdiv bt116.2.1 1460)))) + (wrap64 (Int.tdiv bt116.2.1 36524)))) - (wrap64 (Int.tdiv bt116.2.1 146096)))) 365)) 100)))))) - (wrap64 (Int.tdiv (wrap64 ((wrap64 (153 * (wrap64 (Int.tdiv (wrap64 ((wrap64 (5 * (wrap64 (bt116.2.1 - (wrap64 ((wrap64 ((wrap64 (365 * (wrap64 (Int.tdiv (wrap64 ((wrap64 ((wrap64 (bt116.2.1 - (wrap64 (Int.tdiv bt116.2.1 1460)))) + (wrap64 (Int.tdiv bt116.2.1 36524)))) - (wrap64 (Int.tdiv bt116.2.1 146096)))) 365)))) + (wrap64 (Int.tdiv (wrap64 (Int.tdiv (wrap64 ((wrap64 ((wrap64 (bt116.2.1 - (wrap64 (Int.tdiv bt116.2.1 1460)))) + (wrap64 (Int.tdiv bt116.2.1 36524)))) - (wrap64 (Int.tdiv bt116.2.1 146096)))) 365)) 4)))) - (wrap64 (Int.tdiv (wrap64 (Int.tdiv (wrap64 ((wrap64 ((wrap64 (bt116.2.1 - (wrap64 (Int.tdiv bt116.2.1 1460)))) + (wrap64 (Int.tdiv bt116.2.1 36524)))) - (wrap64 (Int.tdiv bt116.2.1 146096)))) 365)) 100)))))))) + 2)) 153)))) + 2)) 5)))) + 1), 0)) else (some (0, 0, 0, 2)))) else ((civil_may.f (wrap64 ((wrap64 (Int.tdiv (wrap64 ((wrap64 ((wrap64 (bt116.2.1 - (wrap64 (Int.tdiv bt116.2.1 1460)))) + (wrap64 (Int.tdiv bt116.2.1 36524)))) - (wrap64 (Int.tdiv bt116.2.1 146096)))) 365)) + (wrap64 (400 * bt116.1))))).bind fun t120 => (if t120 = true then (some (wrap64 ((wrap64 (Int.tdiv (wrap64 ((wrap64 ((wrap64 (bt116.2.1 - (wrap64 (Int.tdiv bt116.2.1 1460)))) + (wrap64 (Int.tdiv bt116.2.1 36524)))) - (wrap64 (Int.tdiv bt116.2.1 146096)))) 365)) + (wrap64 (400 * bt116.1))), wrap64 ((wrap64 (Int.tdiv (wrap64 ((wrap64 (5 * (wrap64 (bt116.2.1 - (wrap64 ((wrap64 ((wrap64 (365 * (wrap64 (Int.tdiv (wrap64 ((wrap64 ((wrap64 (bt116.2.1 - (wrap64 (Int.tdiv bt116.2.1 1460)))) + (wrap64 (Int.tdiv bt116.2.1 36524)))) - (wrap64 (Int.tdiv bt116.2.1 146096)))) 365)))) + (wrap64 (Int.tdiv (wrap64 (Int.tdiv (wrap64 ((wrap64 ((wrap64 (bt116.2.1 - (wrap64 (Int.tdiv bt116.2.1 1460)))) + (wrap64 (Int.tdiv bt116.2.1 36524)))) - (wrap64 (Int.tdiv bt116.2.1 146096)))) 365)) 4)))) - (wrap64 (Int.tdiv (wrap64 (Int.tdiv (wrap64 ((wrap64 ((wrap64 (bt116.2.1 - (wrap64 (Int.tdiv bt116.2.1 1460)))) + (wrap64 (Int.tdiv bt116.2.1 36524)))) - (wrap64 (Int.tdiv bt116.2.1 146096)))) 365)) 100)))))))) + 2)) 153)) + 3), wrap64 ((wrap64 ((wrap64 (bt116.2.1 - (wrap64 ((wrap64 ((wrap64 (365 * (wrap64 (Int.tdiv (wrap64 ((wrap64 ((wrap64 (bt116.2.1 - (wrap64 (Int.tdiv bt116.2.1 1460)))) + (wrap64 (Int.tdiv bt116.2.1 36524)))) - (wrap64 (Int.tdiv bt116.2.1 146096)))) 365)))) + (wrap64 (Int.tdiv (wrap64 (Int.tdiv (wrap64 ((wrap64 ((wrap64 (bt116.2.1 - (wrap64 (Int.tdiv bt116.2.1 1460)))) + (wrap64 (Int.tdiv bt116.2.1 36524)))) - (wrap64 (Int.tdiv bt116.2.1 146096)))) 365)) 4)))) - (wrap64 (Int.tdiv (wrap64 (Int.tdiv (wrap64 ((wrap64 ((wrap64 (bt116.2.1 - (wrap64 (Int.tdiv bt116.2.1 1460)))) + (wrap64 (Int.tdiv bt116.2.1 36524)))) - (wrap64 (Int.tdiv bt116.2.1 146096)))) 365)) 100)))))) - (wrap64 (Int.tdiv (wrap64 ((wrap64 (153 * (wrap64 (Int.tdiv (wrap64 ((wrap64 (5 * (wrap64 (bt116.2.1 - (wrap64 ((wrap64 ((wrap64 (365 * (wrap64 (Int.tdiv (wrap64 ((wrap64 ((wrap64 (bt116.2.1 - (wrap64 (Int.tdiv bt116.2.1 1460)))) + (wrap64 (Int.tdiv bt116.2.1 36524)))) - (wrap64 (Int.tdiv bt116.2.1 146096)))) 365)))) + (wrap64 (Int.tdiv (wrap64 (Int.tdiv (wrap64 ((wrap64 ((wrap64 (bt116.2.1 - (wrap64 (Int.tdiv bt116.2.1 1460)))) + (wrap64 (Int.tdiv bt116.2.1 36524)))) - (wrap64 (Int.tdiv bt116.2.1 146096)))) 365)) 4)))) - (wrap64 (Int.tdiv (wrap64 (Int.tdiv (wrap64 ((wrap64 ((wrap64 (bt116.2.1 - (wrap64 (Int.tdiv bt116.2.1 1460)))) + (wrap64 (Int.tdiv bt116.2.1 36524)))) - (wrap64 (Int.tdiv bt116.2.1 146096)))) 365)) 100)))))))) + 2)) 153)))) + 2)) 5)))) + 1), 0)) else (some (0, 0, 0, 2)))))) else (some (0, 0, 0, 2)))) = some (r1, r2, r3, r4) := h
  clear h
  replace H := Option.bind_eq_some_iff.mp H
  obtain ⟨⟨t114, t115⟩, A20, H⟩ := H
  replace H : (if t115 = true then ((number_Div.f t114 146097).bind fun bt116 => (if (wrap64 ((wrap64 (Int.tdiv (wrap64 ((wrap64 (5 * (wrap64 (bt116.2.1 - (wrap64 ((wrap64 ((wrap64 (365 * (wrap64 (Int.tdiv (wrap64 ((wrap64 ((wrap64 (bt116.2.1 - (wrap64 (Int.tdiv bt116.2.1 1460)))) + (wrap64 (Int.tdiv bt116.2.1 36524)))) - (wrap64 (Int.tdiv bt116.2.1 146096)))) 365)))) + (wrap64 (Int.tdiv (wrap64 (Int.tdiv (wrap64 ((wrap64 ((wrap64 (bt116.2.1 - (wrap64 (Int.tdiv bt116.2.1 1460)))) + (wrap64 (Int.tdiv bt116.2.1 36524)))) - (wrap64 (Int.tdiv bt116.2.1 146096)))) 365)) 4)))) - (wrap64 (Int.tdiv (wrap64 (Int.tdiv (wrap64 ((wrap64 ((wrap64 (bt116.2.1 - (wrap64 (Int.tdiv bt116.2.1 1460)))) + (wrap64 (Int.tdiv bt116.2.1 36524)))) - (wrap64 (Int.tdiv bt116.2.1 146096)))) 365)) 100)))))))) + 2)) 153)) + 3)) > 12 then ((civil_may.f (wrap64 ((wrap64 ((wrap64 (Int.tdiv (wrap64 ((wrap64 ((wrap64 (bt116.2.1 - (wrap64 (Int.tdiv bt116.2.1 1460)))) + (wrap64 (Int.tdiv bt116.2.1 36524)))) - (wrap64 (Int.tdiv bt116.2.1 146096)))) 365)) + (wrap64 (400 * bt116.1)))) + 1))).bind fun t119 => (if t119 = true then (some (wrap64 ((wrap64 ((wrap64 (Int.tdiv (wrap64 ((wrap64 ((wrap64 (bt116.2.1 - (wrap64 (Int.tdiv bt116.2.1 1460)))) + (wrap64 (Int.tdiv bt116.2.1 36524)))) - (wrap64 (Int.tdiv bt116.2.1 146096)))) 365)) + (wrap64 (400 * bt116.1)))) + 1), wrap64 ((wrap64 ((wrap64 (Int.tdiv (wrap64 ((wrap64 (5 * (wrap64 (bt116.2.1 - (wrap64 ((wrap64 ((wrap64 (365 * (wrap64 (Int.tdiv (wrap64 ((wrap64 ((wrap64 (bt116.2.1 - (wrap64 (Int.tdiv bt116.2.1 1460)))) + (wrap64 (Int.tdiv bt116.2.1 36524)))) - (wrap64 (Int.tdiv bt116.2.1 146096)))) 365)))) + (wrap64 (Int.tdiv (wrap64 (Int.tdiv (wrap64 ((wrap64 ((wrap64 (bt116.2.1 - (wrap64 (Int.tdiv bt116.2.1 1460)))) + (wrap64 (Int.tdiv bt116.2.1 36524)))) - (wrap64 (Int.tdiv bt116.2.1 146096)))) 365)) 4)))) - (wrap64 (Int.tdiv (wrap64 (Int.tdiv (wrap64 ((wrap64 ((wrap64 (bt116.2.1 - (wrap64 (Int.tdiv bt116.2.1 1460)))) + (wrap64 (Int.tdiv bt116.2.1 36524)))) - (wrap64 (Int.tdiv bt116.2.1 146096)))) 365)) 100)))))))) + 2)) 153)) + 3)) - 12), wrap64 ((wrap64 ((wrap64 (bt116.2.1 - (wrap64 ((wrap64 ((wrap64 (365 * (wrap64 (Int.tdiv (wrap64 ((wrap64 ((wrap64 (bt116.2.1 - (wrap64 (Int.tdiv bt116.2.1 1460)))) + (wrap64 (Int.tdiv bt116.2.1 36524)))) - (wrap64 (Int.tdiv bt116.2.1 146096)))) 365)))) + (wrap64 (Int.tdiv (wrap64 (Int.tdiv (wrap64 ((wrap64 ((wrap64 (bt116.2.1 - (wrap64 (Int.tdiv bt116.2.1 1460)))) + (wrap64 (Int.tdiv bt116.2.1 36524)))) - (wrap64 (Int.tdiv bt116.2.1 146096)))) 365)) 4)))) - (wrap64 (Int.tdiv (wrap64 (Int.tdiv (wrap64 ((wrap64 ((wrap64 (bt116.2.1 - (wrap64 (Int.tdiv bt116.2.1 1460)))) + (wrap64 (Int.tdiv bt116.2.1 36524)))) - (wrap64 (Int.tdiv bt116.2.1 146096)))) 365)) 100)))))) - (wrap64 (Int.tdiv (wrap64 ((wrap64 (153 * (wrap64 (Int.tdiv (wrap64 ((wrap64 (5 * (wrap64 (bt116.2.1 - (wrap64 ((wrap64 ((wrap64 (365 * (wrap64 (Int.tdiv (wrap64 ((wrap64 ((wrap64 (bt116.2.1 - (wrap64 (Int.tdiv bt116.2.1 1460)))) + (wrap64 (Int.tdiv bt116.2.1 36524)))) - (wrap64 (Int.tdiv bt116.2.1 146096)))) 365)))) + (wrap64 (Int.tdiv (wrap64 (Int.tdiv (wrap64 ((wrap64 ((wrap64 (bt116.2.1 - (wrap64 (Int.tdiv bt116.2.1 1460)))) + (wrap64 (Int.tdiv bt116.2.1 36524)))) - (wrap64 (Int.tdiv bt116.2.1 146096)))) 365)) 4)))) - (wrap64 (Int.tdiv (wrap64 (Int.tdiv (wrap64 ((wrap64 ((wrap64 (bt116.2.1 - (wrap64 (Int.tdiv bt116.2.1 1460)))) + (wrap64 (Int.tdiv bt116.2.1 36524)))) - (wrap64 (Int.tdiv bt116.2.1 146096)))) 365)) 100)))))))) + 2)) 153)))) + 2)) 5)))) + 1), 0)) else (some (0, 0, 0, 2)))) else ((civil_may.f (wrap64 ((wrap64 (Int.tdiv (wrap64 ((wrap64 ((wrap64 (bt116.2.1 - (wrap64 (Int.tdiv bt116.2.1 1460)))) + (wrap64 (Int.tdiv bt116.2.1 36524)))) - (wrap64 (Int.tdiv bt116.2.1 146096)))) 365)) + (wrap64 (400 * bt116.1))))).bind fun t120 => (if t120 = true then (some (wrap64 ((wrap64 (Int.tdiv (wrap64 ((wrap64 ((wrap64 (bt116.2.1 - (wrap64 (Int.tdiv bt116.2.1 1460)))) + (wrap64 (Int.tdiv bt116.2.1 36524)))) - (wrap64 (Int.tdiv bt116.2.1 146096)))) 365)) + (wrap64 (400 * bt116.1))), wrap64 ((wrap64 (Int.tdiv (wrap64 ((wrap64 (5 * (wrap64 (bt116.2.1 - (wrap64 ((wrap64 ((wrap64 (365 * (wrap64 (Int.tdiv (wrap64 ((wrap64 ((wrap64 (bt116.2.1 - (wrap64 (Int.tdiv bt116.2.1 1460)))) + (wrap64 (Int.tdiv bt116.2.1 36524)))) - (wrap64 (Int.tdiv bt116.2.1 146096)))) 365)))) + (wrap64 (Int.tdiv (wrap64 (Int.tdiv (wrap64 ((wrap64 ((wrap64 (bt116.2.1 - (wrap64 (Int.tdiv bt116.2.1 1460)))) + (wrap64 (Int.tdiv bt116.2.1 36524)))) - (wrap64 (Int.tdiv bt116.2.1 146096)))) 365)) 4)))) - (wrap64 (Int.tdiv (wrap64 (Int.tdiv (wrap64 ((wrap64 ((wrap64 (bt116.2.1 - (wrap64 (Int.tdiv bt116.2.1 1460)))) + (wrap64 (Int.tdiv bt116.2.1 36524)))) - (wrap64 (Int.tdiv bt116.2.1 146096)))) 365)) 100)))))))) + 2)) 153)) + 3), wrap64 ((wrap64 ((wrap64 (bt116.2.1 - (wrap64 ((wrap64 ((wrap64 (365 * (wrap64 (Int.tdiv (wrap64 ((wrap64 ((wrap64 (bt116.2.1 - (wrap64 (Int.tdiv bt116.2.1 1460)))) + (wrap64 (Int.tdiv bt116.2.1 36524)))) - (wrap64 (Int.tdiv bt116.2.1 146096)))) 365)))) + (wrap64 (Int.tdiv (wrap64 (Int.tdiv (wrap64 ((wrap64 ((wrap64 (bt116.2.1 - (wrap64 (Int.tdiv bt116.2.1 1460)))) + (wrap64 (Int.tdiv bt116.2.1 36524)))) - (wrap64 (Int.tdiv bt116.2.1 146096)))) 365)) 4)))) - (wrap64 (Int.tdiv (wrap64 (Int.tdiv (wrap64 ((wrap64 ((wrap64 (bt116.2.1 - (wrap64 (Int.tdiv bt116.2.1 1460)))) + (wrap64 (Int.tdiv bt116.2.1 36524)))) - (wrap64 (Int.tdiv bt116.2.1 146096)))) 365)) 100)))))) - (wrap64 (Int.tdiv (wrap64 ((wrap64 (153 * (wrap64 (Int.tdiv (wrap64 ((wrap64 (5 * (wrap64 (bt116.2.1 - (wrap64 ((wrap64 ((wrap64 (365 * (wrap64 (Int.tdiv (wrap64 ((wrap64 ((wrap64 (bt116.2.1 - (wrap64 (Int.tdiv bt116.2.1 1460)))) + (wrap64 (Int.tdiv bt116.2.1 36524)))) - (wrap64 (Int.tdiv bt116.2.1 146096)))) 365)))) + (wrap64 (Int.tdiv (wrap64 (Int.tdiv (wrap64 ((wrap64 ((wrap64 (bt116.2.1 - (wrap64 (Int.tdiv bt116.2.1 1460)))) + (wrap64 (Int.tdiv bt116.2.1 36524)))) - (wrap64 (Int.tdiv bt116.2.1 146096)))) 365)) 4)))) - (wrap64 (Int.tdiv (wrap64 (Int.tdiv (wrap64 ((wrap64 ((wrap64 (bt116.2.1 - (wrap64 (Int.tdiv bt116.2.1 1460)))) + (wrap64 (Int.tdiv bt116.2.1 36524)))) - (wrap64 (Int.tdiv bt116.2.1 146096)))) 365)) 100)))))))) + 2)) 153)))) + 2)) 5)))) + 1), 0)) else (some (0, 0, 0, 2)))))) else (some (0, 0, 0, 2))) = some (r1, r2, r3, r4) := H
  have A2 := Aside0.mk A20
  clear A20
  by_cases c3 : t115 = true
  · subst c3
    have H1 : ((number_Div.f t114 146097).bind fun bt116 => (if (wrap64 ((wrap64 (Int.tdiv (wrap64 ((wrap64 (5 * (wrap64 (bt116.2.1 - (wrap64 ((wrap64 ((wrap64 (365 * (wrap64 (Int.tdiv (wrap64 ((wrap64 ((wrap64 (bt116.2.1 - (wrap64 (Int.tdiv bt116.2.1 1460)))) + (wrap64 (Int.tdiv bt116.2.1 36524)))) - (wrap64 (Int.tdiv bt116.2.1 146096)))) 365)))) + (wrap64 (Int.tdiv (wrap64 (Int.tdiv (wrap64 ((wrap64 ((wrap64 (bt116.2.1 - (wrap64 (Int.tdiv bt116.2.1 1460)))) + (wrap64 (Int.tdiv bt116.2.1 36524)))) - (wrap64 (Int.tdiv bt116.2.1 146096)))) 365)) 4)))) - (wrap64 (Int.tdiv (wrap64 (Int.tdiv (wrap64 ((wrap64 ((wrap64 (bt116.2.1 - (wrap64 (Int.tdiv bt116.2.1 1460)))) + (wrap64 (Int.tdiv bt116.2.1 36524)))) - (wrap64 (Int.tdiv bt116.2.1 146096)))) 365)) 100)))))))) + 2)) 153)) + 3)) > 12 then ((civil_may.f (wrap64 ((wrap64 ((wrap64 (Int.tdiv (wrap64 ((wrap64 ((wrap64 (bt116.2.1 - (wrap64 (Int.tdiv bt116.2.1 1460)))) + (wrap64 (Int.tdiv bt116.2.1 36524)))) - (wrap64 (Int.tdiv bt116.2.1 146096)))) 365)) + (wrap64 (400 * bt116.1)))) + 1))).bind fun t119 => (if t119 = true then (some (wrap64 ((wrap64 ((wrap64 (Int.tdiv (wrap64 ((wrap64 ((wrap64 (bt116.2.1 - (wrap64 (Int.tdiv bt116.2.1 1460)))) + (wrap64 (Int.tdiv bt116.2.1 36524)))) - (wrap64 (Int.tdiv bt116.2.1 146096)))) 365)) + (wrap64 (400 * bt116.1)))) + 1), wrap64 ((wrap64 ((wrap64 (Int.tdiv (wrap64 ((wrap64 (5 * (wrap64 (bt116.2.1 - (wrap64 ((wrap64 ((wrap64 (365 * (wrap64 (Int.tdiv (wrap64 ((wrap64 ((wrap64 (bt116.2.1 - (wrap64 (Int.tdiv bt116.2.1 1460)))) + (wrap64 (Int.tdiv bt116.2.1 36524)))) - (wrap64 (Int.tdiv bt116.2.1 146096)))) 365)))) + (wrap64 (Int.tdiv (wrap64 (Int.tdiv (wrap64 ((wrap64 ((wrap64 (bt116.2.1 - (wrap64 (Int.tdiv bt116.2.1 1460)))) + (wrap64 (Int.tdiv bt116.2.1 36524)))) - (wrap64 (Int.tdiv bt116.2.1 146096)))) 365)) 4)))) - (wrap64 (Int.tdiv (wrap64 (Int.tdiv (wrap64 ((wrap64 ((wrap64 (bt116.2.1 - (wrap64 (Int.tdiv bt116.2.1 1460)))) + (wrap64 (Int.tdiv bt116.2.1 36524)))) - (wrap64 (Int.tdiv bt116.2.1 146096)))) 365)) 100)))))))) + 2)) 153)) + 3)) - 12), wrap64 ((wrap64 ((wrap64 (bt116.2.1 - (wrap64 ((wrap64 ((wrap64 (365 * (wrap64 (Int.tdiv (wrap64 ((wrap64 ((wrap64 (bt116.2.1 - (wrap64 (Int.tdiv bt116.2.1 1460)))) + (wrap64 (Int.tdiv bt116.2.1 36524)))) - (wrap64 (Int.tdiv bt116.2.1 146096)))) 365)))) + (wrap64 (Int.tdiv (wrap64 (Int.tdiv (wrap64 ((wrap64 ((wrap64 (bt116.2.1 - (wrap64 (Int.tdiv bt116.2.1 1460)))) + (wrap64 (Int.tdiv bt116.2.1 36524)))) - (wrap64 (Int.tdiv bt116.2.1 146096)))) 365)) 4)))) - (wrap64 (Int.tdiv (wrap64 (Int.tdiv (wrap64 ((wrap64 ((wrap64 (bt116.2.1 - (wrap64 (Int.tdiv bt116.2.1 1460)))) + (wrap64 (Int.tdiv bt116.2.1 36524)))) - (wrap64 (Int.tdiv bt116.2.1 146096)))) 365)) 100)))))) - (wrap64 (Int.tdiv (wrap64 ((wrap64 (153 * (wrap64 (Int.tdiv (wrap64 ((wrap64 (5 * (wrap64 (bt116.2.1 - (wrap64 ((wrap64 ((wrap64 (365 * (wrap64 (Int.tdiv (wrap64 ((wrap64 ((wrap64 (bt116.2.1 - (wrap64 (Int.tdiv bt116.2.1 1460)))) + (wrap64 (Int.tdiv bt116.2.1 36524)))) - (wrap64 (Int.tdiv bt116.2.1 146096)))) 365)))) + (wrap64 (Int.tdiv (wrap64 (Int.tdiv (wrap64 ((wrap64 ((wrap64 (bt116.2.1 - (wrap64 (Int.tdiv bt116.2.1 1460)))) + (wrap64 (Int.tdiv bt116.2.1 36524)))) - (wrap64 (Int.tdiv bt116.2.1 146096)))) 365)) 4)))) - (wrap64 (Int.tdiv (wrap64 (Int.tdiv (wrap64 ((wrap64 ((wrap64 (bt116.2.1 - (wrap64 (Int.tdiv bt116.2.1 1460)))) + (wrap64 (Int.tdiv bt116.2.1 36524)))) - (wrap64 (Int.tdiv bt116.2.1 146096)))) 365)) 100)))))))) + 2)) 153)))) + 2)) 5)))) + 1), 0)) else (some (0, 0, 0, 2)))) else ((civil_may.f (wrap64 ((wrap64 (Int.tdiv (wrap64 ((wrap64 ((wrap64 (bt116.2.1 - (wrap64 (Int.tdiv bt116.2.1 1460)))) + (wrap64 (Int.tdiv bt116.2.1 36524)))) - (wrap64 (Int.tdiv bt116.2.1 146096)))) 365)) + (wrap64 (400 * bt116.1))))).bind fun t120 => (if t120 = true then (some (wrap64 ((wrap64 (Int.tdiv (wrap64 ((wrap64 ((wrap64 (bt116.2.1 - (wrap64 (Int.tdiv bt116.2.1 1460)))) + (wrap64 (Int.tdiv bt116.2.1 36524)))) - (wrap64 (Int.tdiv bt116.2.1 146096)))) 365)) + (wrap64 (400 * bt116.1))), wrap64 ((wrap64 (Int.tdiv (wrap64 ((wrap64 (5 * (wrap64 (bt116.2.1 - (wrap64 ((wrap64 ((wrap64 (365 * (wrap64 (Int.tdiv (wrap64 ((wrap64 ((wrap64 (bt116.2.1 - (wrap64 (Int.tdiv bt116.2.1 1460)))) + (wrap64 (Int.tdiv bt116.2.1 36524)))) - (wrap64 (Int.tdiv bt116.2.1 146096)))) 365)))) + (wrap64 (Int.tdiv (wrap64 (Int.tdiv (wrap64 ((wrap64 ((wrap64 (bt116.2.1 - (wrap64 (Int.tdiv bt116.2.1 1460)))) + (wrap64 (Int.tdiv bt116.2.1 36524)))) - (wrap64 (Int.tdiv bt116.2.1 146096)))) 365)) 4)))) - (wrap64 (Int.tdiv (wrap64 (Int.tdiv (wrap64 ((wrap64 ((wrap64 (bt116.2.1 - (wrap64 (Int.tdiv bt116.2.1 1460)))) + (wrap64 (Int.tdiv bt116.2.1 36524)))) - (wrap64 (Int.tdiv bt116.2.1 146096)))) 365)) 100)))))))) + 2)) 153)) + 3), wrap64 ((wrap64 ((wrap64 (bt116.2.1 - (wrap64 ((wrap64 ((wrap64 (365 * (wrap64 (Int.tdiv (wrap64 ((wrap64 ((wrap64 (bt116.2.1 - (wrap64 (Int.tdiv bt116.2.1 1460)))) + (wrap64 (Int.tdiv bt116.2.1 36524)))) - (wrap64 (Int.tdiv bt116.2.1 146096)))) 365)))) + (wrap64 (Int.tdiv (wrap64 (Int.tdiv (wrap64 ((wrap64 ((wrap64 (bt116.2.1 - (wrap64 (Int.tdiv bt116.2.1 1460)))) + (wrap64 (Int.tdiv bt116.2.1 36524)))) - (wrap64 (Int.tdiv bt116.2.1 146096)))) 365)) 4)))) - (wrap64 (Int.tdiv (wrap64 (Int.tdiv (wrap64 ((wrap64 ((wrap64 (bt116.2.1 - (wrap64 (Int.tdiv bt116.2.1 1460)))) + (wrap64 (Int.tdiv bt116.2.1 36524)))) - (wrap64 (Int.tdiv bt116.2.1 146096)))) 365)) 100)))))) - (wrap64 (Int.tdiv (wrap64 ((wrap64 (153 * (wrap64 (Int.tdiv (wrap64 ((wrap64 (5 * (wrap64 (bt116.2.1 - (wrap64 ((wrap64 ((wrap64 (365 * (wrap64 (Int.tdiv (wrap64 ((wrap64 ((wrap64 (bt116.2.1 - (wrap64 (Int.tdiv bt116.2.1 1460)))) + (wrap64 (Int.tdiv bt116.2.1 36524)))) - (wrap64 (Int.tdiv bt116.2.1 146096)))) 365)))) + (wrap64 (Int.tdiv (wrap64 (Int.tdiv (wrap64 ((wrap64 ((wrap64 (bt116.2.1 - (wrap64 (Int.tdiv bt116.2.1 1460)))) + (wrap64 (Int.tdiv bt116.2.1 36524)))) - (wrap64 (Int.tdiv bt116.2.1 146096)))) 365)) 4)))) - (wrap64 (Int.tdiv (wrap64 (Int.tdiv (wrap64 ((wrap64 ((wrap64 (bt116.2.1 - (wrap64 (Int.tdiv bt116.2.1 1460)))) + (wrap64 (Int.tdiv bt116.2.1 36524)))) - (wrap64 (Int.tdiv bt116.2.1 146096)))) 365)) 100)))))))) + 2)) 153)))) + 2)) 5)))) + 1), 0)) else (some (0, 0, 0, 2)))))) = some (r1, r2, r3, r4) := by rw [if_pos rfl] at H; exact H
    clear H
    have H := H1
    clear H1
    replace H := Option.bind_eq_some_iff.mp H
    obtain ⟨⟨t116, t117, t118⟩, A40, H⟩ := H
    replace H : (if (wrap64 ((wrap64 (Int.tdiv (wrap64 ((wrap64 (5 * (wrap64 (t117 - (wrap64 ((wrap64 ((wrap64 (365 * (wrap64 (Int.tdiv (wrap64 ((wrap64 ((wrap64 (t117 - (wrap64 (Int.tdiv t117 1460)))) + (wrap64 (Int.tdiv t117 36524)))) - (wrap64 (Int.tdiv t117 146096)))) 365)))) + (wrap64 (Int.tdiv (wrap64 (Int.tdiv (wrap64 ((wrap64 ((wrap64 (t117 - (wrap64 (Int.tdiv t117 1460)))) + (wrap64 (Int.tdiv t117 36524)))) - (wrap64 (Int.tdiv t117 146096)))) 365)) 4)))) - (wrap64 (Int.tdiv (wrap64 (Int.tdiv (wrap64 ((wrap64 ((wrap64 (t117 - (wrap64 (Int.tdiv t117 1460)))) + (wrap64 (Int.tdiv t117 36524)))) - (wrap64 (Int.tdiv t117 146096)))) 365)) 100)))))))) + 2)) 153)) + 3)) > 12 then ((civil_may.f (wrap64 ((wrap64 ((wrap64 (Int.tdiv (wrap64 ((wrap64 ((wrap64 (t117 - (wrap64 (Int.tdiv t117 1460)))) + (wrap64 (Int.tdiv t117 36524)))) - (wrap64 (Int.tdiv t117 146096)))) 365)) + (wrap64 (400 * t116)))) + 1))).bind fun t119 => (if t119 = true then (some (wrap64 ((wrap64 ((wrap64 (Int.tdiv (wrap64 ((wrap64 ((wrap64 (t117 - (wrap64 (Int.tdiv t117 1460)))) + (wrap64 (Int.tdiv t117 36524)))) - (wrap64 (Int.tdiv t117 146096)))) 365)) + (wrap64 (400 * t116)))) + 1), wrap64 ((wrap64 ((wrap64 (Int.tdiv (wrap64 ((wrap64 (5 * (wrap64 (t117 - (wrap64 ((wrap64 ((wrap64 (365 * (wrap64 (Int.tdiv (wrap64 ((wrap64 ((wrap64 (t117 - (wrap64 (Int.tdiv t117 1460)))) + (wrap64 (Int.tdiv t117 36524)))) - (wrap64 (Int.tdiv t117 146096)))) 365)))) + (wrap64 (Int.tdiv (wrap64 (Int.tdiv (wrap64 ((wrap64 ((wrap64 (t117 - (wrap64 (Int.tdiv t117 1460)))) + (wrap64 (Int.tdiv t117 36524)))) - (wrap64 (Int.tdiv t117 146096)))) 365)) 4)))) - (wrap64 (Int.tdiv (wrap64 (Int.tdiv (wrap64 ((wrap64 ((wrap64 (t117 - (wrap64 (Int.tdiv t117 1460)))) + (wrap64 (Int.tdiv t117 36524)))) - (wrap64 (Int.tdiv t117 146096)))) 365)) 100)))))))) + 2)) 153)) + 3)) - 12), wrap64 ((wrap64 ((wrap64 (t117 - (wrap64 ((wrap64 ((wrap64 (365 * (wrap64 (Int.tdiv (wrap64 ((wrap64 ((wrap64 (t117 - (wrap64 (Int.tdiv t117 1460)))) + (wrap64 (Int.tdiv t117 36524)))) - (wrap64 (Int.tdiv t117 146096)))) 365)))) + (wrap64 (Int.tdiv (wrap64 (Int.tdiv (wrap64 ((wrap64 ((wrap64 (t117 - (wrap64 (Int.tdiv t117 1460)))) + (wrap64 (Int.tdiv t117 36524)))) - (wrap64 (Int.tdiv t117 146096)))) 365)) 4)))) - (wrap64 (Int.tdiv (wrap64 (Int.tdiv (wrap64 ((wrap64 ((wrap64 (t117 - (wrap64 (Int.tdiv t117 1460)))) + (wrap64 (Int.tdiv t117 36524)))) - (wrap64 (Int.tdiv t117 146096)))) 365)) 100)))))) - (wrap64 (Int.tdiv (wrap64 ((wrap64 (153 * (wrap64 (Int.tdiv (wrap64 ((wrap64 (5 * (wrap64 (t117 - (wrap64 ((wrap64 ((wrap64 (365 * (wrap64 (Int.tdiv (wrap64 ((wrap64 ((wrap64 (t117 - (wrap64 (Int.tdiv t117 1460)))) + (wrap64 (Int.tdiv t117 36524)))) - (wrap64 (Int.tdiv t117 146096)))) 365)))) + (wrap64 (Int.tdiv (wrap64 (Int.tdiv (wrap64 ((wrap64 ((wrap64 (t117 - (wrap64 (Int.tdiv t117 1460)))) + (wrap64 (Int.tdiv t117 36524)))) - (wrap64 (Int.tdiv t117 146096)))) 365)) 4)))) - (wrap64 (Int.tdiv (wrap64 (Int.tdiv (wrap64 ((wrap64 ((wrap64 (t117 - (wrap64 (Int.tdiv t117 1460)))) + (wrap64 (Int.tdiv t117 36524)))) - (wrap64 (Int.tdiv t117 146096)))) 365)) 100)))))))) + 2)) 153)))) + 2)) 5)))) + 1), 0)) else (some (0, 0, 0, 2)))) else ((civil_may.f (wrap64 ((wrap64 (Int.tdiv (wrap64 ((wrap64 ((wrap64 (t117 - (wrap64 (Int.tdiv t117 1460)))) + (wrap64 (Int.tdiv t117 36524)))) - (wrap64 (Int.tdiv t117 146096)))) 365)) + (wrap64 (400 * t116))))).bind fun t120 => (if t120 = true then (some (wrap64 ((wrap64 (Int.tdiv (wrap64 ((wrap64 ((wrap64 (t117 - (wrap64 (Int.tdiv t117 1460)))) + (wrap64 (Int.tdiv t117 36524)))) - (wrap64 (Int.tdiv t117 146096)))) 365)) + (wrap64 (400 * t116))), wrap64 ((wrap64 (Int.tdiv (wrap64 ((wrap64 (5 * (wrap64 (t117 - (wrap64 ((wrap64 ((wrap64 (365 * (wrap64 (Int.tdiv (wrap64 ((wrap64 ((wrap64 (t117 - (wrap64 (Int.tdiv t117 1460)))) + (wrap64 (Int.tdiv t117 36524)))) - (wrap64 (Int.tdiv t117 146096)))) 365)))) + (wrap64 (Int.tdiv (wrap64 (Int.tdiv (wrap64 ((wrap64 ((wrap64 (t117 - (wrap64 (Int.tdiv t117 1460)))) + (wrap64 (Int.tdiv t117 36524)))) - (wrap64 (Int.tdiv t117 146096)))) 365)) 4)))) - (wrap64 (Int.tdiv (wrap64 (Int.tdiv (wrap64 ((wrap64 ((wrap64 (t117 - (wrap64 (Int.tdiv t117 1460)))) + (wrap64 (Int.tdiv t117 36524)))) - (wrap64 (Int.tdiv t117 146096)))) 365)) 100)))))))) + 2)) 153)) + 3), wrap64 ((wrap64 ((wrap64 (t117 - (wrap64 ((wrap64 ((wrap64 (365 * (wrap64 (Int.tdiv (wrap64 ((wrap64 ((wrap64 (t117 - (wrap64 (Int.tdiv t117 1460)))) + (wrap64 (Int.tdiv t117 36524)))) - (wrap64 (Int.tdiv t117 146096)))) 365)))) + (wrap64 (Int.tdiv (wrap64 (Int.tdiv (wrap64 ((wrap64 ((wrap64 (t117 - (wrap64 (Int.tdiv t117 1460)))) + (wrap64 (Int.tdiv t117 36524)))) - (wrap64 (Int.tdiv t117 146096)))) 365)) 4)))) - (wrap64 (Int.tdiv (wrap64 (Int.tdiv (wrap64 ((wrap64 ((wrap64 (t117 - (wrap64 (Int.tdiv t117 1460)))) + (wrap64 (Int.tdiv t117 36524)))) - (wrap64 (Int.tdiv t117 146096)))) 365)) 100)))))) - (wrap64 (Int.tdiv (wrap64 ((wrap64 (153 * (wrap64 (Int.tdiv (wrap64 ((wrap64 (5 * (wrap64 (t117 - (wrap64 ((wrap64 ((wrap64 (365 * (wrap64 (Int.tdiv (wrap64 ((wrap64 ((wrap64 (t117 - (wrap64 (Int.tdiv t117 1460)))) + (wrap64 (Int.tdiv t117 36524)))) - (wrap64 (Int.tdiv t117 146096)))) 365)))) + (wrap64 (Int.tdiv (wrap64 (Int.tdiv (wrap64 ((wrap64 ((wrap64 (t117 - (wrap64 (Int.tdiv t117 1460)))) + (wrap64 (Int.tdiv t117 36524)))) - (wrap64 (Int.tdiv t117 146096)))) 365)) 4)))) - (wrap64 (Int.tdiv (wrap64 (Int.tdiv (wrap64 ((wrap64 ((wrap64 (t117 - (wrap64 (Int.tdiv t117 1460)))) + (wrap64 (Int.tdiv t117 36524)))) - (wrap64 (Int.tdiv t117 146096)))) 365)) 100)))))))) + 2)) 153)))) + 2)) 5)))) + 1), 0)) else (some (0, 0, 0, 2))))) = some (r1, r2, r3, r4) := H
    have A4 := Aside0.mk A40
    clear A40
    by_cases c5 : (wrap64 ((wrap64 (Int.tdiv (wrap64 ((wrap64 (5 * (wrap64 (t117 - (wrap64 ((wrap64 ((wrap64 (365 * (wrap64 (Int.tdiv (wrap64 ((wrap64 ((wrap64 (t117 - (wrap64 (Int.tdiv t117 1460)))) + (wrap64 (Int.tdiv t117 36524)))) - (wrap64 (Int.tdiv t117 146096)))) 365)))) + (wrap64 (Int.tdiv (wrap64 (Int.tdiv (wrap64 ((wrap64 ((wrap64 (t117 - (wrap64 (Int.tdiv t117 1460)))) + (wrap64 (Int.tdiv t117 36524)))) - (wrap64 (Int.tdiv t117 146096)))) 365)) 4)))) - (wrap64 (Int.tdiv (wrap64 (Int.tdiv (wrap64 ((wrap64 ((wrap64 (t117 - (wrap64 (Int.tdiv t117 1460)))) + (wrap64 (Int.tdiv t117 36524)))) - (wrap64 (Int.tdiv t117 146096)))) 365)) 100)))))))) + 2)) 153)) + 3)) > 12
    · rw [if_pos c5] at H
      have c5b0 : decide (12 < (wrap64 ((wrap64 (Int.tdiv (wrap64 ((wrap64 (5 * (wrap64 (t117 - (wrap64 ((wrap64 ((wrap64 (365 * (wrap64 (Int.tdiv (wrap64 ((wrap64 ((wrap64 (t117 - (wrap64 (Int.tdiv t117 1460)))) + (wrap64 (Int.tdiv t117 36524)))) - (wrap64 (Int.tdiv t117 146096)))) 365)))) + (wrap64 (Int.tdiv (wrap64 (Int.tdiv (wrap64 ((wrap64 ((wrap64 (t117 - (wrap64 (Int.tdiv t117 1460)))) + (wrap64 (Int.tdiv t117 36524)))) - (wrap64 (Int.tdiv t117 146096)))) 365)) 4)))) - (wrap64 (Int.tdiv (wrap64 (Int.tdiv (wrap64 ((wrap64 ((wrap64 (t117 - (wrap64 (Int.tdiv t117 1460)))) + (wrap64 (Int.tdiv t117 36524)))) - (wrap64 (Int.tdiv t117 146096)))) 365)) 100)))))))) + 2)) 153)) + 3))) = true := decide_eq_true c5
      clear c5
      replace H := Option.bind_eq_some_iff.mp H
      obtain ⟨t119, A60, H⟩ := H
      replace H : (if t119 = true then (some (wrap64 ((wrap64 ((wrap64 (Int.tdiv (wrap64 ((wrap64 ((wrap64 (t117 - (wrap64 (Int.tdiv t117 1460)))) + (wrap64 (Int.tdiv t117 36524)))) - (wrap64 (Int.tdiv t117 146096)))) 365)) + (wrap64 (400 * t116)))) + 1), wrap64 ((wrap64 ((wrap64 (Int.tdiv (wrap64 ((wrap64 (5 * (wrap64 (t117 - (wrap64 ((wrap64 ((wrap64 (365 * (wrap64 (Int.tdiv (wrap64 ((wrap64 ((wrap64 (t117 - (wrap64 (Int.tdiv t117 1460)))) + (wrap64 (Int.tdiv t117 36524)))) - (wrap64 (Int.tdiv t117 146096)))) 365)))) + (wrap64 (Int.tdiv (wrap64 (Int.tdiv (wrap64 ((wrap64 ((wrap64 (t117 - (wrap64 (Int.tdiv t117 1460)))) + (wrap64 (Int.tdiv t117 36524)))) - (wrap64 (Int.tdiv t117 146096)))) 365)) 4)))) - (wrap64 (Int.tdiv (wrap64 (Int.tdiv (wrap64 ((wrap64 ((wrap64 (t117 - (wrap64 (Int.tdiv t117 1460)))) + (wrap64 (Int.tdiv t117 36524)))) - (wrap64 (Int.tdiv t117 146096)))) 365)) 100)))))))) + 2)) 153)) + 3)) - 12), wrap64 ((wrap64 ((wrap64 (t117 - (wrap64 ((wrap64 ((wrap64 (365 * (wrap64 (Int.tdiv (wrap64 ((wrap64 ((wrap64 (t117 - (wrap64 (Int.tdiv t117 1460)))) + (wrap64 (Int.tdiv t117 36524)))) - (wrap64 (Int.tdiv t117 146096)))) 365)))) + (wrap64 (Int.tdiv (wrap64 (Int.tdiv (wrap64 ((wrap64 ((wrap64 (t117 - (wrap64 (Int.tdiv t117 1460)))) + (wrap64 (Int.tdiv t117 36524)))) - (wrap64 (Int.tdiv t117 146096)))) 365)) 4)))) - (wrap64 (Int.tdiv (wrap64 (Int.tdiv (wrap64 ((wrap64 ((wrap64 (t117 - (wrap64 (Int.tdiv t117 1460)))) + (wrap64 (Int.tdiv t117 36524)))) - (wrap64 (Int.tdiv t117 146096)))) 365)) 100)))))) - (wrap64 (Int.tdiv (wrap64 ((wrap64 (153 * (wrap64 (Int.tdiv (wrap64 ((wrap64 (5 * (wrap64 (t117 - (wrap64 ((wrap64 ((wrap64 (365 * (wrap64 (Int.tdiv (wrap64 ((wrap64 ((wrap64 (t117 - (wrap64 (Int.tdiv t117 1460)))) + (wrap64 (Int.tdiv t117 36524)))) - (wrap64 (Int.tdiv t117 146096)))) 365)))) + (wrap64 (Int.tdiv (wrap64 (Int.tdiv (wrap64 ((wrap64 ((wrap64 (t117 - (wrap64 (Int.tdiv t117 1460)))) + (wrap64 (Int.tdiv t117 36524)))) - (wrap64 (Int.tdiv t117 146096)))) 365)) 4)))) - (wrap64 (Int.tdiv (wrap64 (Int.tdiv (wrap64 ((wrap64 ((wrap64 (t117 - (wrap64 (Int.tdiv t117 1460)))) + (wrap64 (Int.tdiv t117 36524)))) - (wrap64 (Int.tdiv t117 146096)))) 365)) 100)))))))) + 2)) 153)))) + 2)) 5)))) + 1), 0)) else (some (0, 0, 0, 2))) = some (r1, r2, r3, r4) := H
      have A6 := Aside0.mk A60
      clear A60
      by_cases c7 : t119 = true
      · subst c7
        have H1 : (some (wrap64 ((wrap64 ((wrap64 (Int.tdiv (wrap64 ((wrap64 ((wrap64 (t117 - (wrap64 (Int.tdiv t117 1460)))) + (wrap64 (Int.tdiv t117 36524)))) - (wrap64 (Int.tdiv t117 146096)))) 365)) + (wrap64 (400 * t116)))) + 1), wrap64 ((wrap64 ((wrap64 (Int.tdiv (wrap64 ((wrap64 (5 * (wrap64 (t117 - (wrap64 ((wrap64 ((wrap64 (365 * (wrap64 (Int.tdiv (wrap64 ((wrap64 ((wrap64 (t117 - (wrap64 (Int.tdiv t117 1460)))) + (wrap64 (Int.tdiv t117 36524)))) - (wrap64 (Int.tdiv t117 146096)))) 365)))) + (wrap64 (Int.tdiv (wrap64 (Int.tdiv (wrap64 ((wrap64 ((wrap64 (t117 - (wrap64 (Int.tdiv t117 1460)))) + (wrap64 (Int.tdiv t117 36524)))) - (wrap64 (Int.tdiv t117 146096)))) 365)) 4)))) - (wrap64 (Int.tdiv (wrap64 (Int.tdiv (wrap64 ((wrap64 ((wrap64 (t117 - (wrap64 (Int.tdiv t117 1460)))) + (wrap64 (Int.tdiv t117 36524)))) - (wrap64 (Int.tdiv t117 146096)))) 365)) 100)))))))) + 2)) 153)) + 3)) - 12), wrap64 ((wrap64 ((wrap64 (t117 - (wrap64 ((wrap64 ((wrap64 (365 * (wrap64 (Int.tdiv (wrap64 ((wrap64 ((wrap64 (t117 - (wrap64 (Int.tdiv t117 1460)))) + (wrap64 (Int.tdiv t117 36524)))) - (wrap64 (Int.tdiv t117 146096)))) 365)))) + (wrap64 (Int.tdiv (wrap64 (Int.tdiv (wrap64 ((wrap64 ((wrap64 (t117 - (wrap64 (Int.tdiv t117 1460)))) + (wrap64 (Int.tdiv t117 36524)))) - (wrap64 (Int.tdiv t117 146096)))) 365)) 4)))) - (wrap64 (Int.tdiv (wrap64 (Int.tdiv (wrap64 ((wrap64 ((wrap64 (t117 - (wrap64 (Int.tdiv t117 1460)))) + (wrap64 (Int.tdiv t117 36524)))) - (wrap64 (Int.tdiv t117 146096)))) 365)) 100)))))) - (wrap64 (Int.tdiv (wrap64 ((wrap64 (153 * (wrap64 (Int.tdiv (wrap64 ((wrap64 (5 * (wrap64 (t117 - (wrap64 ((wrap64 ((wrap64 (365 * (wrap64 (Int.tdiv (wrap64 ((wrap64 ((wrap64 (t117 - (wrap64 (Int.tdiv t117 1460)))) + (wrap64 (Int.tdiv t117 36524)))) - (wrap64 (Int.tdiv t117 146096)))) 365)))) + (wrap64 (Int.tdiv (wrap64 (Int.tdiv (wrap64 ((wrap64 ((wrap64 (t117 - (wrap64 (Int.tdiv t117 1460)))) + (wrap64 (Int.tdiv t117 36524)))) - (wrap64 (Int.tdiv t117 146096)))) 365)) 4)))) - (wrap64 (Int.tdiv (wrap64 (Int.tdiv (wrap64 ((wrap64 ((wrap64 (t117 - (wrap64 (Int.tdiv t117 1460)))) + (wrap64 (Int.tdiv t117 36524)))) - (wrap64 (Int.tdiv t117 146096)))) 365)) 100)))))))) + 2)) 153)))) + 2)) 5)))) + 1), 0)) = some (r1, r2, r3, r4) := by rw [if_pos rfl] at H; exact H
        clear H
        have H := H1
        clear H1
        simp only [Option.some.injEq, Prod.mk.injEq] at H
        obtain ⟨rfl, rfl, rfl, rfl⟩ := H
        go_enter Tryd.func22, Tryd.ntmps22
        go_wp2_with (first | ((with_reducible refine gate_callee (f := 30) rfl ?_); refine goesL_ (some 15) rfl rfl Tryd.func30 (by kernel_rfl) rfl #[.int .i64 a0, .int .i64 719468] rfl (by (try simp only [List.map_toArray, List.map_cons, List.map_nil]); first | done | rfl | (simp only [List.length_drop, List.length_take]; rfl)) ?_; (with_reducible refine (number_Add.calls a0 719468 t114 true _ A2.out (by first | exact hG | exact hG.drewN _ | exact (hG.drewN _).drewN _)).mono ?_); rintro e w' ⟨rfl, ⟨nd, rfl⟩⟩; refine ⟨_, rfl, ?_⟩) | ((with_reducible refine gate_callee (f := 27) rfl ?_); refine goesL_ (some 22) rfl rfl Tryd.func27 (by kernel_rfl) rfl #[.int .i64 t114, .int .i64 146097] rfl (by (try simp only [List.map_toArray, List.map_cons, List.map_nil]); first | done | rfl | (simp only [List.length_drop, List.length_take]; rfl)) ?_; (with_reducible refine (number_Div.calls t114 146097 t116 t117 t118 _ A4.out (by first | exact hG | exact hG.drewN _ | exact (hG.drewN _).drewN _)).mono ?_); rintro e w' ⟨rfl, ⟨nd, rfl⟩⟩; refine ⟨_, rfl, ?_⟩) | ((with_reducible refine gate_callee (f := 28) rfl ?_); refine goesL_ (some 71) rfl rfl Tryd.func28 (by kernel_rfl) rfl #[.int .i64 (wrap64 ((wrap64 ((wrap64 (Int.tdiv (wrap64 ((wrap64 ((wrap64 (t117 - (wrap64 (Int.tdiv t117 1460)))) + (wrap64 (Int.tdiv t117 36524)))) - (wrap64 (Int.tdiv t117 146096)))) 365)) + (wrap64 (400 * t116)))) + 1))] rfl (by (try simp only [List.map_toArray, List.map_cons, List.map_nil]); first | done | rfl | (simp only [List.length_drop, List.length_take]; rfl)) ?_; (with_reducible refine (civil_may.calls (wrap64 ((wrap64 ((wrap64 (Int.tdiv (wrap64 ((wrap64 ((wrap64 (t117 - (wrap64 (Int.tdiv t117 1460)))) + (wrap64 (Int.tdiv t117 36524)))) - (wrap64 (Int.tdiv t117 146096)))) 365)) + (wrap64 (400 * t116)))) + 1)) true _ A6.out (by first | exact hG | exact hG.drewN _ | exact (hG.drewN _).drewN _)).mono ?_); rintro e w' ⟨rfl, ⟨nd, rfl⟩⟩; refine ⟨_, rfl, ?_⟩))
        refine bodyPost_ret (results_list (rs := [.tmp 2, .tmp 3, .tmp 4, .tmp 5]) rfl (by simp) (.tmp (.tmp (.tmp (.tmp .nil))))) rfl ?_
        exact ⟨by first | rfl | (simp; done) | (simp [*]; done), by repeat (first | exact Drawn0.refl _ | apply Drawn0.step)⟩
      · replace c7 := Bool.eq_false_iff.mpr c7
        subst c7
        have H1 : (some (0, 0, 0, 2)) = some (r1, r2, r3, r4) := by rw [if_neg (show ¬ (false = true) by decide)] at H; exact H
        clear H
        have H := H1
        clear H1
        simp only [Option.some.injEq, Prod.mk.injEq] at H
        obtain ⟨rfl, rfl, rfl, rfl⟩ := H
        go_enter Tryd.func22, Tryd.ntmps22
        go_wp2_with (first | ((with_reducible refine gate_callee (f := 30) rfl ?_); refine goesL_ (some 15) rfl rfl Tryd.func30 (by kernel_rfl) rfl #[.int .i64 a0, .int .i64 719468] rfl (by (try simp only [List.map_toArray, List.map_cons, List.map_nil]); first | done | rfl | (simp only [List.length_drop, List.length_take]; rfl)) ?_; (with_reducible refine (number_Add.calls a0 719468 t114 true _ A2.out (by first | exact hG | exact hG.drewN _ | exact (hG.drewN _).drewN _)).mono ?_); rintro e w' ⟨rfl, ⟨nd, rfl⟩⟩; refine ⟨_, rfl, ?_⟩) | ((with_reducible refine gate_callee (f := 27) rfl ?_); refine goesL_ (some 22) rfl rfl Tryd.func27 (by kernel_rfl) rfl #[.int .i64 t114, .int .i64 146097] rfl (by (try simp only [List.map_toArray, List.map_cons, List.map_nil]); first | done | rfl | (simp only [List.length_drop, List.length_take]; rfl)) ?_; (with_reducible refine (number_Div.calls t114 146097 t116 t117 t118 _ A4.out (by first | exact hG | exact hG.drewN _ | exact (hG.drewN _).drewN _)).mono ?_); rintro e w' ⟨rfl, ⟨nd, rfl⟩⟩; refine ⟨_, rfl, ?_⟩) | ((with_reducible refine gate_callee (f := 28) rfl ?_); refine goesL_ (some 71) rfl rfl Tryd.func28 (by kernel_rfl) rfl #[.int .i64 (wrap64 ((wrap64 ((wrap64 (Int.tdiv (wrap64 ((wrap64 ((wrap64 (t117 - (wrap64 (Int.tdiv t117 1460)))) + (wrap64 (Int.tdiv t117 36524)))) - (wrap64 (Int.tdiv t117 146096)))) 365)) + (wrap64 (400 * t116)))) + 1))] rfl (by (try simp only [List.map_toArray, List.map_cons, List.map_nil]); first | done | rfl | (simp only [List.length_drop, List.length_take]; rfl)) ?_; (with_reducible refine (civil_may.calls (wrap64 ((wrap64 ((wrap64 (Int.tdiv (wrap64 ((wrap64 ((wrap64 (t117 - (wrap64 (Int.tdiv t117 1460)))) + (wrap64 (Int.tdiv t117 36524)))) - (wrap64 (Int.tdiv t117 146096)))) 365)) + (wrap64 (400 * t116)))) + 1)) false _ A6.out (by first | exact hG | exact hG.drewN _ | exact (hG.drewN _).drewN _)).mono ?_); rintro e w' ⟨rfl, ⟨nd, rfl⟩⟩; refine ⟨_, rfl, ?_⟩))
        refine bodyPost_ret (results_list (rs := [.tmp 2, .tmp 3, .tmp 4, .tmp 5]) rfl (by simp) (.tmp (.tmp (.tmp (.tmp .nil))))) rfl ?_
        exact ⟨by first | rfl | (simp; done) | (simp [*]; done), by repeat (first | exact Drawn0.refl _ | apply Drawn0.step)⟩
    · rw [if_neg c5] at H
      have c5b0 : decide (12 < (wrap64 ((wrap64 (Int.tdiv (wrap64 ((wrap64 (5 * (wrap64 (t117 - (wrap64 ((wrap64 ((wrap64 (365 * (wrap64 (Int.tdiv (wrap64 ((wrap64 ((wrap64 (t117 - (wrap64 (Int.tdiv t117 1460)))) + (wrap64 (Int.tdiv t117 36524)))) - (wrap64 (Int.tdiv t117 146096)))) 365)))) + (wrap64 (Int.tdiv (wrap64 (Int.tdiv (wrap64 ((wrap64 ((wrap64 (t117 - (wrap64 (Int.tdiv t117 1460)))) + (wrap64 (Int.tdiv t117 36524)))) - (wrap64 (Int.tdiv t117 146096)))) 365)) 4)))) - (wrap64 (Int.tdiv (wrap64 (Int.tdiv (wrap64 ((wrap64 ((wrap64 (t117 - (wrap64 (Int.tdiv t117 1460)))) + (wrap64 (Int.tdiv t117 36524)))) - (wrap64 (Int.tdiv t117 146096)))) 365)) 100)))))))) + 2)) 153)) + 3))) = false := decide_eq_false c5
      clear c5
      replace H := Option.bind_eq_some_iff.mp H
      obtain ⟨t120, A80, H⟩ := H
      replace H : (if t120 = true then (some (wrap64 ((wrap64 (Int.tdiv (wrap64 ((wrap64 ((wrap64 (t117 - (wrap64 (Int.tdiv t117 1460)))) + (wrap64 (Int.tdiv t117 36524)))) - (wrap64 (Int.tdiv t117 146096)))) 365)) + (wrap64 (400 * t116))), wrap64 ((wrap64 (Int.tdiv (wrap64 ((wrap64 (5 * (wrap64 (t117 - (wrap64 ((wrap64 ((wrap64 (365 * (wrap64 (Int.tdiv (wrap64 ((wrap64 ((wrap64 (t117 - (wrap64 (Int.tdiv t117 1460)))) + (wrap64 (Int.tdiv t117 36524)))) - (wrap64 (Int.tdiv t117 146096)))) 365)))) + (wrap64 (Int.tdiv (wrap64 (Int.tdiv (wrap64 ((wrap64 ((wrap64 (t117 - (wrap64 (Int.tdiv t117 1460)))) + (wrap64 (Int.tdiv t117 36524)))) - (wrap64 (Int.tdiv t117 146096)))) 365)) 4)))) - (wrap64 (Int.tdiv (wrap64 (Int.tdiv (wrap64 ((wrap64 ((wrap64 (t117 - (wrap64 (Int.tdiv t117 1460)))) + (wrap64 (Int.tdiv t117 36524)))) - (wrap64 (Int.tdiv t117 146096)))) 365)) 100)))))))) + 2)) 153)) + 3), wrap64 ((wrap64 ((wrap64 (t117 - (wrap64 ((wrap64 ((wrap64 (365 * (wrap64 (Int.tdiv (wrap64 ((wrap64 ((wrap64 (t117 - (wrap64 (Int.tdiv t117 1460)))) + (wrap64 (Int.tdiv t117 36524)))) - (wrap64 (Int.tdiv t117 146096)))) 365)))) + (wrap64 (Int.tdiv (wrap64 (Int.tdiv (wrap64 ((wrap64 ((wrap64 (t117 - (wrap64 (Int.tdiv t117 1460)))) + (wrap64 (Int.tdiv t117 36524)))) - (wrap64 (Int.tdiv t117 146096)))) 365)) 4)))) - (wrap64 (Int.tdiv (wrap64 (Int.tdiv (wrap64 ((wrap64 ((wrap64 (t117 - (wrap64 (Int.tdiv t117 1460)))) + (wrap64 (Int.tdiv t117 36524)))) - (wrap64 (Int.tdiv t117 146096)))) 365)) 100)))))) - (wrap64 (Int.tdiv (wrap64 ((wrap64 (153 * (wrap64 (Int.tdiv (wrap64 ((wrap64 (5 * (wrap64 (t117 - (wrap64 ((wrap64 ((wrap64 (365 * (wrap64 (Int.tdiv (wrap64 ((wrap64 ((wrap64 (t117 - (wrap64 (Int.tdiv t117 1460)))) + (wrap64 (Int.tdiv t117 36524)))) - (wrap64 (Int.tdiv t117 146096)))) 365)))) + (wrap64 (Int.tdiv (wrap64 (Int.tdiv (wrap64 ((wrap64 ((wrap64 (t117 - (wrap64 (Int.tdiv t117 1460)))) + (wrap64 (Int.tdiv t117 36524)))) - (wrap64 (Int.tdiv t117 146096)))) 365)) 4)))) - (wrap64 (Int.tdiv (wrap64 (Int.tdiv (wrap64 ((wrap64 ((wrap64 (t117 - (wrap64 (Int.tdiv t117 1460)))) + (wrap64 (Int.tdiv t117 36524)))) - (wrap64 (Int.tdiv t117 146096)))) 365)) 100)))))))) + 2)) 153)))) + 2)) 5)))) + 1), 0)) else (some (0, 0, 0, 2))) = some (r1, r2, r3, r4) := H
      have A8 := Aside0.mk A80
      clear A80
      by_cases c9 : t120 = true
      · subst c9
        have H1 : (some (wrap64 ((wrap64 (Int.tdiv (wrap64 ((wrap64 ((wrap64 (t117 - (wrap64 (Int.tdiv t117 1460)))) + (wrap64 (Int.tdiv t117 36524)))) - (wrap64 (Int.tdiv t117 146096)))) 365)) + (wrap64 (400 * t116))), wrap64 ((wrap64 (Int.tdiv (wrap64 ((wrap64 (5 * (wrap64 (t117 - (wrap64 ((wrap64 ((wrap64 (365 * (wrap64 (Int.tdiv (wrap64 ((wrap64 ((wrap64 (t117 - (wrap64 (Int.tdiv t117 1460)))) + (wrap64 (Int.tdiv t117 36524)))) - (wrap64 (Int.tdiv t117 146096)))) 365)))) + (wrap64 (Int.tdiv (wrap64 (Int.tdiv (wrap64 ((wrap64 ((wrap64 (t117 - (wrap64 (Int.tdiv t117 1460)))) + (wrap64 (Int.tdiv t117 36524)))) - (wrap64 (Int.tdiv t117 146096)))) 365)) 4)))) - (wrap64 (Int.tdiv (wrap64 (Int.tdiv (wrap64 ((wrap64 ((wrap64 (t117 - (wrap64 (Int.tdiv t117 1460)))) + (wrap64 (Int.tdiv t117 36524)))) - (wrap64 (Int.tdiv t117 146096)))) 365)) 100)))))))) + 2)) 153)) + 3), wrap64 ((wrap64 ((wrap64 (t117 - (wrap64 ((wrap64 ((wrap64 (365 * (wrap64 (Int.tdiv (wrap64 ((wrap64 ((wrap64 (t117 - (wrap64 (Int.tdiv t117 1460)))) + (wrap64 (Int.tdiv t117 36524)))) - (wrap64 (Int.tdiv t117 146096)))) 365)))) + (wrap64 (Int.tdiv (wrap64 (Int.tdiv (wrap64 ((wrap64 ((wrap64 (t117 - (wrap64 (Int.tdiv t117 1460)))) + (wrap64 (Int.tdiv t117 36524)))) - (wrap64 (Int.tdiv t117 146096)))) 365)) 4)))) - (wrap64 (Int.tdiv (wrap64 (Int.tdiv (wrap64 ((wrap64 ((wrap64 (t117 - (wrap64 (Int.tdiv t117 1460)))) + (wrap64 (Int.tdiv t117 36524)))) - (wrap64 (Int.tdiv t117 146096)))) 365)) 100)))))) - (wrap64 (Int.tdiv (wrap64 ((wrap64 (153 * (wrap64 (Int.tdiv (wrap64 ((wrap64 (5 * (wrap64 (t117 - (wrap64 ((wrap64 ((wrap64 (365 * (wrap64 (Int.tdiv (wrap64 ((wrap64 ((wrap64 (t117 - (wrap64 (Int.tdiv t117 1460)))) + (wrap64 (Int.tdiv t117 36524)))) - (wrap64 (Int.tdiv t117 146096)))) 365)))) + (wrap64 (Int.tdiv (wrap64 (Int.tdiv (wrap64 ((wrap64 ((wrap64 (t117 - (wrap64 (Int.tdiv t117 1460)))) + (wrap64 (Int.tdiv t117 36524)))) - (wrap64 (Int.tdiv t117 146096)))) 365)) 4)))) - (wrap64 (Int.tdiv (wrap64 (Int.tdiv (wrap64 ((wrap64 ((wrap64 (t117 - (wrap64 (Int.tdiv t117 1460)))) + (wrap64 (Int.tdiv t117 36524)))) - (wrap64 (Int.tdiv t117 146096)))) 365)) 100)))))))) + 2)) 153)))) + 2)) 5)))) + 1), 0)) = some (r1, r2, r3, r4) := by rw [if_pos rfl] at H; exact H
        clear H
        have H := H1
        clear H1
        simp only [Option.some.injEq, Prod.mk.injEq] at H
        obtain ⟨rfl, rfl, rfl, rfl⟩ := H
        go_enter Tryd.func22, Tryd.ntmps22
        go_wp2_with (first | ((with_reducible refine gate_callee (f := 30) rfl ?_); refine goesL_ (some 15) rfl rfl Tryd.func30 (by kernel_rfl) rfl #[.int .i64 a0, .int .i64 719468] rfl (by (try simp only [List.map_toArray, List.map_cons, List.map_nil]); first | done | rfl | (simp only [List.length_drop, List.length_take]; rfl)) ?_; (with_reducible refine (number_Add.calls a0 719468 t114 true _ A2.out (by first | exact hG | exact hG.drewN _ | exact (hG.drewN _).drewN _)).mono ?_); rintro e w' ⟨rfl, ⟨nd, rfl⟩⟩; refine ⟨_, rfl, ?_⟩) | ((with_reducible refine gate_callee (f := 27) rfl ?_); refine goesL_ (some 22) rfl rfl Tryd.func27 (by kernel_rfl) rfl #[.int .i64 t114, .int .i64 146097] rfl (by (try simp only [List.map_toArray, List.map_cons, List.map_nil]); first | done | rfl | (simp only [List.length_drop, List.length_take]; rfl)) ?_; (with_reducible refine (number_Div.calls t114 146097 t116 t117 t118 _ A4.out (by first | exact hG | exact hG.drewN _ | exact (hG.drewN _).drewN _)).mono ?_); rintro e w' ⟨rfl, ⟨nd, rfl⟩⟩; refine ⟨_, rfl, ?_⟩) | ((with_reducible refine gate_callee (f := 28) rfl ?_); refine goesL_ (some 71) rfl rfl Tryd.func28 (by kernel_rfl) rfl #[.int .i64 (wrap64 ((wrap64 (Int.tdiv (wrap64 ((wrap64 ((wrap64 (t117 - (wrap64 (Int.tdiv t117 1460)))) + (wrap64 (Int.tdiv t117 36524)))) - (wrap64 (Int.tdiv t117 146096)))) 365)) + (wrap64 (400 * t116))))] rfl (by (try simp only [List.map_toArray, List.map_cons, List.map_nil]); first | done | rfl | (simp only [List.length_drop, List.length_take]; rfl)) ?_; (with_reducible refine (civil_may.calls (wrap64 ((wrap64 (Int.tdiv (wrap64 ((wrap64 ((wrap64 (t117 - (wrap64 (Int.tdiv t117 1460)))) + (wrap64 (Int.tdiv t117 36524)))) - (wrap64 (Int.tdiv t117 146096)))) 365)) + (wrap64 (400 * t116)))) true _ A8.out (by first | exact hG | exact hG.drewN _ | exact (hG.drewN _).drewN _)).mono ?_); rintro e w' ⟨rfl, ⟨nd, rfl⟩⟩; refine ⟨_, rfl, ?_⟩))
        refine bodyPost_ret (results_list (rs := [.tmp 2, .tmp 3, .tmp 4, .tmp 5]) rfl (by simp) (.tmp (.tmp (.tmp (.tmp .nil))))) rfl ?_
        exact ⟨by first | rfl | (simp; done) | (simp [*]; done), by repeat (first | exact Drawn0.refl _ | apply Drawn0.step)⟩
      · replace c9 := Bool.eq_false_iff.mpr c9
        subst c9
        have H1 : (some (0, 0, 0, 2)) = some (r1, r2, r3, r4) := by rw [if_neg (show ¬ (false = true) by decide)] at H; exact H
        clear H
        have H := H1
        clear H1
        simp only [Option.some.injEq, Prod.mk.injEq] at H
        obtain ⟨rfl, rfl, rfl, rfl⟩ := H
        go_enter Tryd.func22, Tryd.ntmps22
        go_wp2_with (first | ((with_reducible refine gate_callee (f := 30) rfl ?_); refine goesL_ (some 15) rfl rfl Tryd.func30 (by kernel_rfl) rfl #[.int .i64 a0, .int .i64 719468] rfl (by (try simp only [List.map_toArray, List.map_cons, List.map_nil]); first | done | rfl | (simp only [List.length_drop, List.length_take]; rfl)) ?_; (with_reducible refine (number_Add.calls a0 719468 t114 true _ A2.out (by first | exact hG | exact hG.drewN _ | exact (hG.drewN _).drewN _)).mono ?_); rintro e w' ⟨rfl, ⟨nd, rfl⟩⟩; refine ⟨_, rfl, ?_⟩) | ((with_reducible refine gate_callee (f := 27) rfl ?_); refine goesL_ (some 22) rfl rfl Tryd.func27 (by kernel_rfl) rfl #[.int .i64 t114, .int .i64 146097] rfl (by (try simp only [List.map_toArray, List.map_cons, List.map_nil]); first | done | rfl | (simp only [List.length_drop, List.length_take]; rfl)) ?_; (with_reducible refine (number_Div.calls t114 146097 t116 t117 t118 _ A4.out (by first | exact hG | exact hG.drewN _ | exact (hG.drewN _).drewN _)).mono ?_); rintro e w' ⟨rfl, ⟨nd, rfl⟩⟩; refine ⟨_, rfl, ?_⟩) | ((with_reducible refine gate_callee (f := 28) rfl ?_); refine goesL_ (some 71) rfl rfl Tryd.func28 (by kernel_rfl) rfl #[.int .i64 (wrap64 ((wrap64 (Int.tdiv (wrap64 ((wrap64 ((wrap64 (t117 - (wrap64 (Int.tdiv t117 1460)))) + (wrap64 (Int.tdiv t117 36524)))) - (wrap64 (Int.tdiv t117 146096)))) 365)) + (wrap64 (400 * t116))))] rfl (by (try simp only [List.map_toArray, List.map_cons, List.map_nil]); first | done | rfl | (simp only [List.length_drop, List.length_take]; rfl)) ?_; (with_reducible refine (civil_may.calls (wrap64 ((wrap64 (Int.tdiv (wrap64 ((wrap64 ((wrap64 (t117 - (wrap64 (Int.tdiv t117 1460)))) + (wrap64 (Int.tdiv t117 36524)))) - (wrap64 (Int.tdiv t117 146096)))) 365)) + (wrap64 (400 * t116)))) false _ A8.out (by first | exact hG | exact hG.drewN _ | exact (hG.drewN _).drewN _)).mono ?_); rintro e w' ⟨rfl, ⟨nd, rfl⟩⟩; refine ⟨_, rfl, ?_⟩))
        refine bodyPost_ret (results_list (rs := [.tmp 2, .tmp 3, .tmp 4, .tmp 5]) rfl (by simp) (.tmp (.tmp (.tmp (.tmp .nil))))) rfl ?_
        exact ⟨by first | rfl | (simp; done) | (simp [*]; done), by repeat (first | exact Drawn0.refl _ | apply Drawn0.step)⟩
  · replace c3 := Bool.eq_false_iff.mpr c3
    subst c3
    have H1 : (some (0, 0, 0, 2)) = some (r1, r2, r3, r4) := by rw [if_neg (show ¬ (false = true) by decide)] at H; exact H
    clear H
    have H := H1
    clear H1
    simp only [Option.some.injEq, Prod.mk.injEq] at H
    obtain ⟨rfl, rfl, rfl, rfl⟩ := H
    go_enter Tryd.func22, Tryd.ntmps22
    go_wp2_with (first | ((with_reducible refine gate_callee (f := 30) rfl ?_); refine goesL_ (some 15) rfl rfl Tryd.func30 (by kernel_rfl) rfl #[.int .i64 a0, .int .i64 719468] rfl (by (try simp only [List.map_toArray, List.map_cons, List.map_nil]); first | done | rfl | (simp only [List.length_drop, List.length_take]; rfl)) ?_; (with_reducible refine (number_Add.calls a0 719468 t114 false _ A2.out (by first | exact hG | exact hG.drewN _ | exact (hG.drewN _).drewN _)).mono ?_); rintro e w' ⟨rfl, ⟨nd, rfl⟩⟩; refine ⟨_, rfl, ?_⟩))
    refine bodyPost_ret (results_list (rs := [.tmp 2, .tmp 3, .tmp 4, .tmp 5]) rfl (by simp) (.tmp (.tmp (.tmp (.tmp .nil))))) rfl ?_
    exact ⟨by first | rfl | (simp; done) | (simp [*]; done), by repeat (first | exact Drawn0.refl _ | apply Drawn0.step)⟩

/-! ### civil_Weekday: function 25 -/
def civil_Weekday.f (a0 : Int) : Option (Int) := (number_Div.f a0 7).bind fun bt121 => (some (Int.tmod (wrap64 (bt121.2.1 + 4)) 7))
set_option maxHeartbeats 8000000 in
set_option maxRecDepth 100000 in
theorem civil_Weekday.calls (a0 : Int) (r : Int) (w : World) (h : civil_Weekday.f a0 = some r) : Glob w →
    Calls Tryd.prog 25 #[.int .i64 a0] w fun e w' => e = .returned (.int .i64 r) ∧ Drawn0 w w' := by
  intro hG
  have H : ((number_Div.f a0 7).bind fun bt121 => (some (Int.tmod (wrap64 (bt121.2.1 + 4)) 7))) = some r := h
  clear h
  replace H := Option.bind_eq_some_iff.mp H
  obtain ⟨⟨t121, t122, t123⟩, A20, H⟩ := H
  replace H : (some (Int.tmod (wrap64 (t122 + 4)) 7)) = some r := H
  have A2 := Aside0.mk A20
  clear A20
  obtain rfl := Option.some.inj H
  go_enter Tryd.func25, Tryd.ntmps25
  go_wp2_with (first | ((with_reducible refine gate_callee (f := 27) rfl ?_); refine goesL_ (some 8) rfl rfl Tryd.func27 (by kernel_rfl) rfl #[.int .i64 a0, .int .i64 7] rfl (by (try simp only [List.map_toArray, List.map_cons, List.map_nil]); first | done | rfl | (simp only [List.length_drop, List.length_take]; rfl)) ?_; (with_reducible refine (number_Div.calls a0 7 t121 t122 t123 _ A2.out (by first | exact hG | exact hG.drewN _ | exact (hG.drewN _).drewN _)).mono ?_); rintro e w' ⟨rfl, ⟨nd, rfl⟩⟩; refine ⟨_, rfl, ?_⟩))
  go_ret
  exact ⟨by first | rfl | (simp; done) | (simp [*]; done), by repeat (first | exact Drawn0.refl _ | apply Drawn0.step)⟩

/-! ### longcaselaw02_shown: function 11 -/
def longcaselaw02_shown.f  : Option (Bool) := (civil_Days.f 2000 3 1).bind fun bt124 => ((civil_Date.f (-1)).bind fun bt126 => ((civil_Days.f 1900 2 29).bind fun bt130 => ((civil_Date.f 1125899906842624).bind fun bt132 => ((civil_Yearday.f 2024 12 31).bind fun bt136 => (if bt124.1 = 11017 then (if bt124.2 = 0 then (if bt126.1 = 1969 then (if bt126.2.1 = 12 then (if bt126.2.2.1 = 31 then (if bt126.2.2.2 = 0 then (if bt130.2 = 1 then (if bt132.2.2.2 = 2 then ((civil_Weekday.f (-1)).bind fun t138 => (if t138 = 3 then (if bt136.1 = 365 then (if bt136.2 = 0 then ((civil_Leap.f 2000).bind fun t139 => (if t139 = true then ((civil_Leap.f 1900).bind fun t140 => (if t140 = true then (some false) else ((civil_Length.f 2023 2).bind fun t141 => (if t141 = 28 then ((civil_Right.f (-4) 2 29).bind fun t142 => (some t142)) else (some false))))) else (some false))) else (some false)) else (some false)) else (some false))) else (some false)) else (some false)) else (some false)) else (some false)) else (some false)) else (some false)) else (some false)) else (some false))))))
set_option maxHeartbeats 8000000 in
set_option maxRecDepth 100000 in
theorem longcaselaw02_shown.calls  (r : Bool) (w : World) (h : longcaselaw02_shown.f  = some r) : Glob w →
    Calls Tryd.prog 11 #[] w fun e w' => e = .returned (.bool r) ∧ Drawn0 w w' := by
  intro hG
  have H : ((civil_Days.f 2000 3 1).bind fun bt124 => ((civil_Date.f (-1)).bind fun bt126 => ((civil_Days.f 1900 2 29).bind fun bt130 => ((civil_Date.f 1125899906842624).bind fun bt132 => ((civil_Yearday.f 2024 12 31).bind fun bt136 => (if bt124.1 = 11017 then (if bt124.2 = 0 then (if bt126.1 = 1969 then (if bt126.2.1 = 12 then (if bt126.2.2.1 = 31 then (if bt126.2.2.2 = 0 then (if bt130.2 = 1 then (if bt132.2.2.2 = 2 then ((civil_Weekday.f (-1)).bind fun t138 => (if t138 = 3 then (if bt136.1 = 365 then (if bt136.2 = 0 then ((civil_Leap.f 2000).bind fun t139 => (if t139 = true then ((civil_Leap.f 1900).bind fun t140 => (if t140 = true then (some false) else ((civil_Length.f 2023 2).bind fun t141 => (if t141 = 28 then ((civil_Right.f (-4) 2 29).bind fun t142 => (some t142)) else (some false))))) else (some false))) else (some false)) else (some false)) else (some false))) else (some false)) else (some false)) else (some false)) else (some false)) else (some false)) else (some false)) else (some false)) else (some false))))))) = some r := h
  clear h
  replace H := Option.bind_eq_some_iff.mp H
  obtain ⟨⟨t124, t125⟩, A10, H⟩ := H
  replace H : ((civil_Date.f (-1)).bind fun bt126 => ((civil_Days.f 1900 2 29).bind fun bt130 => ((civil_Date.f 1125899906842624).bind fun bt132 => ((civil_Yearday.f 2024 12 31).bind fun bt136 => (if t124 = 11017 then (if t125 = 0 then (if bt126.1 = 1969 then (if bt126.2.1 = 12 then (if bt126.2.2.1 = 31 then (if bt126.2.2.2 = 0 then (if bt130.2 = 1 then (if bt132.2.2.2 = 2 then ((civil_Weekday.f (-1)).bind fun t138 => (if t138 = 3 then (if bt136.1 = 365 then (if bt136.2 = 0 then ((civil_Leap.f 2000).bind fun t139 => (if t139 = true then ((civil_Leap.f 1900).bind fun t140 => (if t140 = true then (some false) else ((civil_Length.f 2023 2).bind fun t141 => (if t141 = 28 then ((civil_Right.f (-4) 2 29).bind fun t142 => (some t142)) else (some false))))) else (some false))) else (some false)) else (some false)) else (some false))) else (some false)) else (some false)) else (some false)) else (some false)) else (some false)) else (some false)) else (some false)) else (some false)))))) = some r := H
  have A1 := Aside0.mk A10
  clear A10
  replace H := Option.bind_eq_some_iff.mp H
  obtain ⟨⟨t126, t127, t128, t129⟩, A20, H⟩ := H
  replace H : ((civil_Days.f 1900 2 29).bind fun bt130 => ((civil_Date.f 1125899906842624).bind fun bt132 => ((civil_Yearday.f 2024 12 31).bind fun bt136 => (if t124 = 11017 then (if t125 = 0 then (if t126 = 1969 then (if t127 = 12 then (if t128 = 31 then (if t129 = 0 then (if bt130.2 = 1 then (if bt132.2.2.2 = 2 then ((civil_Weekday.f (-1)).bind fun t138 => (if t138 = 3 then (if bt136.1 = 365 then (if bt136.2 = 0 then ((civil_Leap.f 2000).bind fun t139 => (if t139 = true then ((civil_Leap.f 1900).bind fun t140 => (if t140 = true then (some false) else ((civil_Length.f 2023 2).bind fun t141 => (if t141 = 28 then ((civil_Right.f (-4) 2 29).bind fun t142 => (some t142)) else (some false))))) else (some false))) else (some false)) else (some false)) else (some false))) else (some false)) else (some false)) else (some false)) else (some false)) else (some false)) else (some false)) else (some false)) else (some false))))) = some r := H
  have A2 := Aside0.mk A20
  clear A20
  replace H := Option.bind_eq_some_iff.mp H
  obtain ⟨⟨t130, t131⟩, A30, H⟩ := H
  replace H : ((civil_Date.f 1125899906842624).bind fun bt132 => ((civil_Yearday.f 2024 12 31).bind fun bt136 => (if t124 = 11017 then (if t125 = 0 then (if t126 = 1969 then (if t127 = 12 then (if t128 = 31 then (if t129 = 0 then (if t131 = 1 then (if bt132.2.2.2 = 2 then ((civil_Weekday.f (-1)).bind fun t138 => (if t138 = 3 then (if bt136.1 = 365 then (if bt136.2 = 0 then ((civil_Leap.f 2000).bind fun t139 => (if t139 = true then ((civil_Leap.f 1900).bind fun t140 => (if t140 = true then (some false) else ((civil_Length.f 2023 2).bind fun t141 => (if t141 = 28 then ((civil_Right.f (-4) 2 29).bind fun t142 => (some t142)) else (some false))))) else (some false))) else (some false)) else (some false)) else (some false))) else (some false)) else (some false)) else (some false)) else (some false)) else (some false)) else (some false)) else (some false)) else (some false)))) = some r := H
  have A3 := Aside0.mk A30
  clear A30
  replace H := Option.bind_eq_some_iff.mp H
  obtain ⟨⟨t132, t133, t134, t135⟩, A40, H⟩ := H
  replace H : ((civil_Yearday.f 2024 12 31).bind fun bt136 => (if t124 = 11017 then (if t125 = 0 then (if t126 = 1969 then (if t127 = 12 then (if t128 = 31 then (if t129 = 0 then (if t131 = 1 then (if t135 = 2 then ((civil_Weekday.f (-1)).bind fun t138 => (if t138 = 3 then (if bt136.1 = 365 then (if bt136.2 = 0 then ((civil_Leap.f 2000).bind fun t139 => (if t139 = true then ((civil_Leap.f 1900).bind fun t140 => (if t140 = true then (some false) else ((civil_Length.f 2023 2).bind fun t141 => (if t141 = 28 then ((civil_Right.f (-4) 2 29).bind fun t142 => (some t142)) else (some false))))) else (some false))) else (some false)) else (some false)) else (some false))) else (some false)) else (some false)) else (some false)) else (some false)) else (some false)) else (some false)) else (some false)) else (some false))) = some r := H
  have A4 := Aside0.mk A40
  clear A40
  replace H := Option.bind_eq_some_iff.mp H
  obtain ⟨⟨t136, t137⟩, A50, H⟩ := H
  replace H : (if t124 = 11017 then (if t125 = 0 then (if t126 = 1969 then (if t127 = 12 then (if t128 = 31 then (if t129 = 0 then (if t131 = 1 then (if t135 = 2 then ((civil_Weekday.f (-1)).bind fun t138 => (if t138 = 3 then (if t136 = 365 then (if t137 = 0 then ((civil_Leap.f 2000).bind fun t139 => (if t139 = true then ((civil_Leap.f 1900).bind fun t140 => (if t140 = true then (some false) else ((civil_Length.f 2023 2).bind fun t141 => (if t141 = 28 then ((civil_Right.f (-4) 2 29).bind fun t142 => (some t142)) else (some false))))) else (some false))) else (some false)) else (some false)) else (some false))) else (some false)) else (some false)) else (some false)) else (some false)) else (some false)) else (some false)) else (some false)) else (some false)) = some r := H
  have A5 := Aside0.mk A50
  clear A50
  by_cases c6 : t124 = 11017
  · rw [if_pos c6] at H
    have c6b0 : (t124 == 11017) = true := beq_iff_eq.mpr c6
    have c6b1 : (t124 != 11017) = false := bne_eq_false_iff_eq.mpr c6
    clear c6
    by_cases c7 : t125 = 0
    · rw [if_pos c7] at H
      have c7b0 : (t125 == 0) = true := beq_iff_eq.mpr c7
      have c7b1 : (t125 != 0) = false := bne_eq_false_iff_eq.mpr c7
      clear c7
      by_cases c8 : t126 = 1969
      · rw [if_pos c8] at H
        have c8b0 : (t126 == 1969) = true := beq_iff_eq.mpr c8
        have c8b1 : (t126 != 1969) = false := bne_eq_false_iff_eq.mpr c8
        clear c8
        by_cases c9 : t127 = 12
        · rw [if_pos c9] at H
          have c9b0 : (t127 == 12) = true := beq_iff_eq.mpr c9
          have c9b1 : (t127 != 12) = false := bne_eq_false_iff_eq.mpr c9
          clear c9
          by_cases c10 : t128 = 31
          · rw [if_pos c10] at H
            have c10b0 : (t128 == 31) = true := beq_iff_eq.mpr c10
            have c10b1 : (t128 != 31) = false := bne_eq_false_iff_eq.mpr c10
            clear c10
            by_cases c11 : t129 = 0
            · rw [if_pos c11] at H
              have c11b0 : (t129 == 0) = true := beq_iff_eq.mpr c11
              have c11b1 : (t129 != 0) = false := bne_eq_false_iff_eq.mpr c11
              clear c11
              by_cases c12 : t131 = 1
              · rw [if_pos c12] at H
                have c12b0 : (t131 == 1) = true := beq_iff_eq.mpr c12
                have c12b1 : (t131 != 1) = false := bne_eq_false_iff_eq.mpr c12
                clear c12
                by_cases c13 : t135 = 2
                · rw [if_pos c13] at H
                  have c13b0 : (t135 == 2) = true := beq_iff_eq.mpr c13
                  have c13b1 : (t135 != 2) = false := bne_eq_false_iff_eq.mpr c13
                  clear c13
                  replace H := Option.bind_eq_some_iff.mp H
                  obtain ⟨t138, A140, H⟩ := H
                  replace H : (if t138 = 3 then (if t136 = 365 then (if t137 = 0 then ((civil_Leap.f 2000).bind fun t139 => (if t139 = true then ((civil_Leap.f 1900).bind fun t140 => (if t140 = true then (some false) else ((civil_Length.f 2023 2).bind fun t141 => (if t141 = 28 then ((civil_Right.f (-4) 2 29).bind fun t142 => (some t142)) else (some false))))) else (some false))) else (some false)) else (some false)) else (some false)) = some r := H
                  have A14 := Aside0.mk A140
                  clear A140
                  by_cases c15 : t138 = 3
                  · rw [if_pos c15] at H
                    have c15b0 : (t138 == 3) = true := beq_iff_eq.mpr c15
                    have c15b1 : (t138 != 3) = false := bne_eq_false_iff_eq.mpr c15
                    clear c15
                    by_cases c16 : t136 = 365
                    · rw [if_pos c16] at H
                      have c16b0 : (t136 == 365) = true := beq_iff_eq.mpr c16
                      have c16b1 : (t136 != 365) = false := bne_eq_false_iff_eq.mpr c16
                      clear c16
                      by_cases c17 : t137 = 0
                      · rw [if_pos c17] at H
                        have c17b0 : (t137 == 0) = true := beq_iff_eq.mpr c17
                        have c17b1 : (t137 != 0) = false := bne_eq_false_iff_eq.mpr c17
                        clear c17
                        replace H := Option.bind_eq_some_iff.mp H
                        obtain ⟨t139, A180, H⟩ := H
                        replace H : (if t139 = true then ((civil_Leap.f 1900).bind fun t140 => (if t140 = true then (some false) else ((civil_Length.f 2023 2).bind fun t141 => (if t141 = 28 then ((civil_Right.f (-4) 2 29).bind fun t142 => (some t142)) else (some false))))) else (some false)) = some r := H
                        have A18 := Aside0.mk A180
                        clear A180
                        by_cases c19 : t139 = true
                        · subst c19
                          have H1 : ((civil_Leap.f 1900).bind fun t140 => (if t140 = true then (some false) else ((civil_Length.f 2023 2).bind fun t141 => (if t141 = 28 then ((civil_Right.f (-4) 2 29).bind fun t142 => (some t142)) else (some false))))) = some r := by rw [if_pos rfl] at H; exact H
                          clear H
                          have H := H1
                          clear H1
                          replace H := Option.bind_eq_some_iff.mp H
                          obtain ⟨t140, A200, H⟩ := H
                          replace H : (if t140 = true then (some false) else ((civil_Length.f 2023 2).bind fun t141 => (if t141 = 28 then ((civil_Right.f (-4) 2 29).bind fun t142 => (some t142)) else (some false)))) = some r := H
                          have A20 := Aside0.mk A200
                          clear A200
                          by_cases c21 : t140 = true
                          · subst c21
                            have H1 : (some false) = some r := by rw [if_pos rfl] at H; exact H
                            clear H
                            have H := H1
                            clear H1
                            obtain rfl := Option.some.inj H
                            go_enter Tryd.func11, Tryd.ntmps11
                            go_wp2_with (first | ((with_reducible refine gate_callee (f := 13) rfl ?_); refine goesL_ (some 16) rfl rfl Tryd.func13 (by kernel_rfl) rfl #[.int .i64 2000, .int .i64 3, .int .i64 1] rfl (by (try simp only [List.map_toArray, List.map_cons, List.map_nil]); first | done | rfl | (simp only [List.length_drop, List.length_take]; rfl)) ?_; (with_reducible refine (civil_Days.calls 2000 3 1 t124 t125 _ A1.out (by first | exact hG | exact hG.drewN _ | exact (hG.drewN _).drewN _)).mono ?_); rintro e w' ⟨rfl, ⟨nd, rfl⟩⟩; refine ⟨_, rfl, ?_⟩) | ((with_reducible refine gate_callee (f := 22) rfl ?_); refine goesL_ (some 20) rfl rfl Tryd.func22 (by kernel_rfl) rfl #[.int .i64 (-1)] rfl (by (try simp only [List.map_toArray, List.map_cons, List.map_nil]); first | done | rfl | (simp only [List.length_drop, List.length_take]; rfl)) ?_; (with_reducible refine (civil_Date.calls (-1) t126 t127 t128 t129 _ A2.out (by first | exact hG | exact hG.drewN _ | exact (hG.drewN _).drewN _)).mono ?_); rintro e w' ⟨rfl, ⟨nd, rfl⟩⟩; refine ⟨_, rfl, ?_⟩) | ((with_reducible refine gate_callee (f := 13) rfl ?_); refine goesL_ (some 26) rfl rfl Tryd.func13 (by kernel_rfl) rfl #[.int .i64 1900, .int .i64 2, .int .i64 29] rfl (by (try simp only [List.map_toArray, List.map_cons, List.map_nil]); first | done | rfl | (simp only [List.length_drop, List.length_take]; rfl)) ?_; (with_reducible refine (civil_Days.calls 1900 2 29 t130 t131 _ A3.out (by first | exact hG | exact hG.drewN _ | exact (hG.drewN _).drewN _)).mono ?_); rintro e w' ⟨rfl, ⟨nd, rfl⟩⟩; refine ⟨_, rfl, ?_⟩) | ((with_reducible refine gate_callee (f := 22) rfl ?_); refine goesL_ (some 30) rfl rfl Tryd.func22 (by kernel_rfl) rfl #[.int .i64 1125899906842624] rfl (by (try simp only [List.map_toArray, List.map_cons, List.map_nil]); first | done | rfl | (simp only [List.length_drop, List.length_take]; rfl)) ?_; (with_reducible refine (civil_Date.calls 1125899906842624 t132 t133 t134 t135 _ A4.out (by first | exact hG | exact hG.drewN _ | exact (hG.drewN _).drewN _)).mono ?_); rintro e w' ⟨rfl, ⟨nd, rfl⟩⟩; refine ⟨_, rfl, ?_⟩) | ((with_reducible refine gate_callee (f := 14) rfl ?_); refine goesL_ (some 36) rfl rfl Tryd.func14 (by kernel_rfl) rfl #[.int .i64 2024, .int .i64 12, .int .i64 31] rfl (by (try simp only [List.map_toArray, List.map_cons, List.map_nil]); first | done | rfl | (simp only [List.length_drop, List.length_take]; rfl)) ?_; (with_reducible refine (civil_Yearday.calls 2024 12 31 t136 t137 _ A5.out (by first | exact hG | exact hG.drewN _ | exact (hG.drewN _).drewN _)).mono ?_); rintro e w' ⟨rfl, ⟨nd, rfl⟩⟩; refine ⟨_, rfl, ?_⟩) | (go_at_call 25; (with_reducible refine (civil_Weekday.calls (-1) t138 _ A14.out (by first | exact hG | exact hG.drewN _ | exact (hG.drewN _).drewN _)).mono ?_); rintro e w' ⟨rfl, ⟨nd, rfl⟩⟩) | (go_at_call 16; (with_reducible refine (civil_Leap.calls 2000 true _ A18.out (by first | exact hG | exact hG.drewN _ | exact (hG.drewN _).drewN _)).mono ?_); rintro e w' ⟨rfl, ⟨nd, rfl⟩⟩) | (go_at_call 16; (with_reducible refine (civil_Leap.calls 1900 true _ A20.out (by first | exact hG | exact hG.drewN _ | exact (hG.drewN _).drewN _)).mono ?_); rintro e w' ⟨rfl, ⟨nd, rfl⟩⟩))
                            go_ret
                            exact ⟨by first | rfl | (simp; done) | (simp [*]; done), by repeat (first | exact Drawn0.refl _ | apply Drawn0.step)⟩
                          · replace c21 := Bool.eq_false_iff.mpr c21
                            subst c21
                            have H1 : ((civil_Length.f 2023 2).bind fun t141 => (if t141 = 28 then ((civil_Right.f (-4) 2 29).bind fun t142 => (some t142)) else (some false))) = some r := by rw [if_neg (show ¬ (false = true) by decide)] at H; exact H
                            clear H
                            have H := H1
                            clear H1
                            replace H := Option.bind_eq_some_iff.mp H
                            obtain ⟨t141, A220, H⟩ := H
                            replace H : (if t141 = 28 then ((civil_Right.f (-4) 2 29).bind fun t142 => (some t142)) else (some false)) = some r := H
                            have A22 := Aside0.mk A220
                            clear A220
                            by_cases c23 : t141 = 28
                            · rw [if_pos c23] at H
                              have c23b0 : (t141 == 28) = true := beq_iff_eq.mpr c23
                              have c23b1 : (t141 != 28) = false := bne_eq_false_iff_eq.mpr c23
                              clear c23
                              replace H := Option.bind_eq_some_iff.mp H
                              obtain ⟨t142, A240, H⟩ := H
                              replace H : (some t142) = some r := H
                              have A24 := Aside0.mk A240
                              clear A240
                              obtain rfl := Option.some.inj H
                              go_enter Tryd.func11, Tryd.ntmps11
                              go_wp2_with (first | ((with_reducible refine gate_callee (f := 13) rfl ?_); refine goesL_ (some 16) rfl rfl Tryd.func13 (by kernel_rfl) rfl #[.int .i64 2000, .int .i64 3, .int .i64 1] rfl (by (try simp only [List.map_toArray, List.map_cons, List.map_nil]); first | done | rfl | (simp only [List.length_drop, List.length_take]; rfl)) ?_; (with_reducible refine (civil_Days.calls 2000 3 1 t124 t125 _ A1.out (by first | exact hG | exact hG.drewN _ | exact (hG.drewN _).drewN _)).mono ?_); rintro e w' ⟨rfl, ⟨nd, rfl⟩⟩; refine ⟨_, rfl, ?_⟩) | ((with_reducible refine gate_callee (f := 22) rfl ?_); refine goesL_ (some 20) rfl rfl Tryd.func22 (by kernel_rfl) rfl #[.int .i64 (-1)] rfl (by (try simp only [List.map_toArray, List.map_cons, List.map_nil]); first | done | rfl | (simp only [List.length_drop, List.length_take]; rfl)) ?_; (with_reducible refine (civil_Date.calls (-1) t126 t127 t128 t129 _ A2.out (by first | exact hG | exact hG.drewN _ | exact (hG.drewN _).drewN _)).mono ?_); rintro e w' ⟨rfl, ⟨nd, rfl⟩⟩; refine ⟨_, rfl, ?_⟩) | ((with_reducible refine gate_callee (f := 13) rfl ?_); refine goesL_ (some 26) rfl rfl Tryd.func13 (by kernel_rfl) rfl #[.int .i64 1900, .int .i64 2, .int .i64 29] rfl (by (try simp only [List.map_toArray, List.map_cons, List.map_nil]); first | done | rfl | (simp only [List.length_drop, List.length_take]; rfl)) ?_; (with_reducible refine (civil_Days.calls 1900 2 29 t130 t131 _ A3.out (by first | exact hG | exact hG.drewN _ | exact (hG.drewN _).drewN _)).mono ?_); rintro e w' ⟨rfl, ⟨nd, rfl⟩⟩; refine ⟨_, rfl, ?_⟩) | ((with_reducible refine gate_callee (f := 22) rfl ?_); refine goesL_ (some 30) rfl rfl Tryd.func22 (by kernel_rfl) rfl #[.int .i64 1125899906842624] rfl (by (try simp only [List.map_toArray, List.map_cons, List.map_nil]); first | done | rfl | (simp only [List.length_drop, List.length_take]; rfl)) ?_; (with_reducible refine (civil_Date.calls 1125899906842624 t132 t133 t134 t135 _ A4.out (by first | exact hG | exact hG.drewN _ | exact (hG.drewN _).drewN _)).mono ?_); rintro e w' ⟨rfl, ⟨nd, rfl⟩⟩; refine ⟨_, rfl, ?_⟩) | ((with_reducible refine gate_callee (f := 14) rfl ?_); refine goesL_ (some 36) rfl rfl Tryd.func14 (by kernel_rfl) rfl #[.int .i64 2024, .int .i64 12, .int .i64 31] rfl (by (try simp only [List.map_toArray, List.map_cons, List.map_nil]); first | done | rfl | (simp only [List.length_drop, List.length_take]; rfl)) ?_; (with_reducible refine (civil_Yearday.calls 2024 12 31 t136 t137 _ A5.out (by first | exact hG | exact hG.drewN _ | exact (hG.drewN _).drewN _)).mono ?_); rintro e w' ⟨rfl, ⟨nd, rfl⟩⟩; refine ⟨_, rfl, ?_⟩) | (go_at_call 25; (with_reducible refine (civil_Weekday.calls (-1) t138 _ A14.out (by first | exact hG | exact hG.drewN _ | exact (hG.drewN _).drewN _)).mono ?_); rintro e w' ⟨rfl, ⟨nd, rfl⟩⟩) | (go_at_call 16; (with_reducible refine (civil_Leap.calls 2000 true _ A18.out (by first | exact hG | exact hG.drewN _ | exact (hG.drewN _).drewN _)).mono ?_); rintro e w' ⟨rfl, ⟨nd, rfl⟩⟩) | (go_at_call 16; (with_reducible refine (civil_Leap.calls 1900 false _ A20.out (by first | exact hG | exact hG.drewN _ | exact (hG.drewN _).drewN _)).mono ?_); rintro e w' ⟨rfl, ⟨nd, rfl⟩⟩) | (go_at_call 18; (with_reducible refine (civil_Length.calls 2023 2 t141 _ A22.out (by first | exact hG | exact hG.drewN _ | exact (hG.drewN _).drewN _)).mono ?_); rintro e w' ⟨rfl, ⟨nd, rfl⟩⟩) | (go_at_call 15; (with_reducible refine (civil_Right.calls (-4) 2 29 t142 _ A24.out (by first | exact hG | exact hG.drewN _ | exact (hG.drewN _).drewN _)).mono ?_); rintro e w' ⟨rfl, ⟨nd, rfl⟩⟩))
                              go_ret
                              exact ⟨by first | rfl | (simp; done) | (simp [*]; done), by repeat (first | exact Drawn0.refl _ | apply Drawn0.step)⟩
                            · rw [if_neg c23] at H
                              have c23b0 : (t141 == 28) = false := beq_eq_false_iff_ne.mpr c23
                              have c23b1 : (t141 != 28) = true := bne_iff_ne.mpr c23
                              obtain rfl := Option.some.inj H
                              go_enter Tryd.func11, Tryd.ntmps11
                              go_wp2_with (first | ((with_reducible refine gate_callee (f := 13) rfl ?_); refine goesL_ (some 16) rfl rfl Tryd.func13 (by kernel_rfl) rfl #[.int .i64 2000, .int .i64 3, .int .i64 1] rfl (by (try simp only [List.map_toArray, List.map_cons, List.map_nil]); first | done | rfl | (simp only [List.length_drop, List.length_take]; rfl)) ?_; (with_reducible refine (civil_Days.calls 2000 3 1 t124 t125 _ A1.out (by first | exact hG | exact hG.drewN _ | exact (hG.drewN _).drewN _)).mono ?_); rintro e w' ⟨rfl, ⟨nd, rfl⟩⟩; refine ⟨_, rfl, ?_⟩) | ((with_reducible refine gate_callee (f := 22) rfl ?_); refine goesL_ (some 20) rfl rfl Tryd.func22 (by kernel_rfl) rfl #[.int .i64 (-1)] rfl (by (try simp only [List.map_toArray, List.map_cons, List.map_nil]); first | done | rfl | (simp only [List.length_drop, List.length_take]; rfl)) ?_; (with_reducible refine (civil_Date.calls (-1) t126 t127 t128 t129 _ A2.out (by first | exact hG | exact hG.drewN _ | exact (hG.drewN _).drewN _)).mono ?_); rintro e w' ⟨rfl, ⟨nd, rfl⟩⟩; refine ⟨_, rfl, ?_⟩) | ((with_reducible refine gate_callee (f := 13) rfl ?_); refine goesL_ (some 26) rfl rfl Tryd.func13 (by kernel_rfl) rfl #[.int .i64 1900, .int .i64 2, .int .i64 29] rfl (by (try simp only [List.map_toArray, List.map_cons, List.map_nil]); first | done | rfl | (simp only [List.length_drop, List.length_take]; rfl)) ?_; (with_reducible refine (civil_Days.calls 1900 2 29 t130 t131 _ A3.out (by first | exact hG | exact hG.drewN _ | exact (hG.drewN _).drewN _)).mono ?_); rintro e w' ⟨rfl, ⟨nd, rfl⟩⟩; refine ⟨_, rfl, ?_⟩) | ((with_reducible refine gate_callee (f := 22) rfl ?_); refine goesL_ (some 30) rfl rfl Tryd.func22 (by kernel_rfl) rfl #[.int .i64 1125899906842624] rfl (by (try simp only [List.map_toArray, List.map_cons, List.map_nil]); first | done | rfl | (simp only [List.length_drop, List.length_take]; rfl)) ?_; (with_reducible refine (civil_Date.calls 1125899906842624 t132 t133 t134 t135 _ A4.out (by first | exact hG | exact hG.drewN _ | exact (hG.drewN _).drewN _)).mono ?_); rintro e w' ⟨rfl, ⟨nd, rfl⟩⟩; refine ⟨_, rfl, ?_⟩) | ((with_reducible refine gate_callee (f := 14) rfl ?_); refine goesL_ (some 36) rfl rfl Tryd.func14 (by kernel_rfl) rfl #[.int .i64 2024, .int .i64 12, .int .i64 31] rfl (by (try simp only [List.map_toArray, List.map_cons, List.map_nil]); first | done | rfl | (simp only [List.length_drop, List.length_take]; rfl)) ?_; (with_reducible refine (civil_Yearday.calls 2024 12 31 t136 t137 _ A5.out (by first | exact hG | exact hG.drewN _ | exact (hG.drewN _).drewN _)).mono ?_); rintro e w' ⟨rfl, ⟨nd, rfl⟩⟩; refine ⟨_, rfl, ?_⟩) | (go_at_call 25; (with_reducible refine (civil_Weekday.calls (-1) t138 _ A14.out (by first | exact hG | exact hG.drewN _ | exact (hG.drewN _).drewN _)).mono ?_); rintro e w' ⟨rfl, ⟨nd, rfl⟩⟩) | (go_at_call 16; (with_reducible refine (civil_Leap.calls 2000 true _ A18.out (by first | exact hG | exact hG.drewN _ | exact (hG.drewN _).drewN _)).mono ?_); rintro e w' ⟨rfl, ⟨nd, rfl⟩⟩) | (go_at_call 16; (with_reducible refine (civil_Leap.calls 1900 false _ A20.out (by first | exact hG | exact hG.drewN _ | exact (hG.drewN _).drewN _)).mono ?_); rintro e w' ⟨rfl, ⟨nd, rfl⟩⟩) | (go_at_call 18; (with_reducible refine (civil_Length.calls 2023 2 t141 _ A22.out (by first | exact hG | exact hG.drewN _ | exact (hG.drewN _).drewN _)).mono ?_); rintro e w' ⟨rfl, ⟨nd, rfl⟩⟩))
                              go_ret
                              exact ⟨by first | rfl | (simp; done) | (simp [*]; done), by repeat (first | exact Drawn0.refl _ | apply Drawn0.step)⟩
                        · replace c19 := Bool.eq_false_iff.mpr c19
                          subst c19
                          have H1 : (some false) = some r := by rw [if_neg (show ¬ (false = true) by decide)] at H; exact H
                          clear H
                          have H := H1
                          clear H1
                          obtain rfl := Option.some.inj H
                          go_enter Tryd.func11, Tryd.ntmps11
                          go_wp2_with (first | ((with_reducible refine gate_callee (f := 13) rfl ?_); refine goesL_ (some 16) rfl rfl Tryd.func13 (by kernel_rfl) rfl #[.int .i64 2000, .int .i64 3, .int .i64 1] rfl (by (try simp only [List.map_toArray, List.map_cons, List.map_nil]); first | done | rfl | (simp only [List.length_drop, List.length_take]; rfl)) ?_; (with_reducible refine (civil_Days.calls 2000 3 1 t124 t125 _ A1.out (by first | exact hG | exact hG.drewN _ | exact (hG.drewN _).drewN _)).mono ?_); rintro e w' ⟨rfl, ⟨nd, rfl⟩⟩; refine ⟨_, rfl, ?_⟩) | ((with_reducible refine gate_callee (f := 22) rfl ?_); refine goesL_ (some 20) rfl rfl Tryd.func22 (by kernel_rfl) rfl #[.int .i64 (-1)] rfl (by (try simp only [List.map_toArray, List.map_cons, List.map_nil]); first | done | rfl | (simp only [List.length_drop, List.length_take]; rfl)) ?_; (with_reducible refine (civil_Date.calls (-1) t126 t127 t128 t129 _ A2.out (by first | exact hG | exact hG.drewN _ | exact (hG.drewN _).drewN _)).mono ?_); rintro e w' ⟨rfl, ⟨nd, rfl⟩⟩; refine ⟨_, rfl, ?_⟩) | ((with_reducible refine gate_callee (f := 13) rfl ?_); refine goesL_ (some 26) rfl rfl Tryd.func13 (by kernel_rfl) rfl #[.int .i64 1900, .int .i64 2, .int .i64 29] rfl (by (try simp only [List.map_toArray, List.map_cons, List.map_nil]); first | done | rfl | (simp only [List.length_drop, List.length_take]; rfl)) ?_; (with_reducible refine (civil_Days.calls 1900 2 29 t130 t131 _ A3.out (by first | exact hG | exact hG.drewN _ | exact (hG.drewN _).drewN _)).mono ?_); rintro e w' ⟨rfl, ⟨nd, rfl⟩⟩; refine ⟨_, rfl, ?_⟩) | ((with_reducible refine gate_callee (f := 22) rfl ?_); refine goesL_ (some 30) rfl rfl Tryd.func22 (by kernel_rfl) rfl #[.int .i64 1125899906842624] rfl (by (try simp only [List.map_toArray, List.map_cons, List.map_nil]); first | done | rfl | (simp only [List.length_drop, List.length_take]; rfl)) ?_; (with_reducible refine (civil_Date.calls 1125899906842624 t132 t133 t134 t135 _ A4.out (by first | exact hG | exact hG.drewN _ | exact (hG.drewN _).drewN _)).mono ?_); rintro e w' ⟨rfl, ⟨nd, rfl⟩⟩; refine ⟨_, rfl, ?_⟩) | ((with_reducible refine gate_callee (f := 14) rfl ?_); refine goesL_ (some 36) rfl rfl Tryd.func14 (by kernel_rfl) rfl #[.int .i64 2024, .int .i64 12, .int .i64 31] rfl (by (try simp only [List.map_toArray, List.map_cons, List.map_nil]); first | done | rfl | (simp only [List.length_drop, List.length_take]; rfl)) ?_; (with_reducible refine (civil_Yearday.calls 2024 12 31 t136 t137 _ A5.out (by first | exact hG | exact hG.drewN _ | exact (hG.drewN _).drewN _)).mono ?_); rintro e w' ⟨rfl, ⟨nd, rfl⟩⟩; refine ⟨_, rfl, ?_⟩) | (go_at_call 25; (with_reducible refine (civil_Weekday.calls (-1) t138 _ A14.out (by first | exact hG | exact hG.drewN _ | exact (hG.drewN _).drewN _)).mono ?_); rintro e w' ⟨rfl, ⟨nd, rfl⟩⟩) | (go_at_call 16; (with_reducible refine (civil_Leap.calls 2000 false _ A18.out (by first | exact hG | exact hG.drewN _ | exact (hG.drewN _).drewN _)).mono ?_); rintro e w' ⟨rfl, ⟨nd, rfl⟩⟩))
                          go_ret
                          exact ⟨by first | rfl | (simp; done) | (simp [*]; done), by repeat (first | exact Drawn0.refl _ | apply Drawn0.step)⟩
                      · rw [if_neg c17] at H
                        have c17b0 : (t137 == 0) = false := beq_eq_false_iff_ne.mpr c17
                        have c17b1 : (t137 != 0) = true := bne_iff_ne.mpr c17
                        obtain rfl := Option.some.inj H
                        go_enter Tryd.func11, Tryd.ntmps11
                        go_wp2_with (first | ((with_reducible refine gate_callee (f := 13) rfl ?_); refine goesL_ (some 16) rfl rfl Tryd.func13 (by kernel_rfl) rfl #[.int .i64 2000, .int .i64 3, .int .i64 1] rfl (by (try simp only [List.map_toArray, List.map_cons, List.map_nil]); first | done | rfl | (simp only [List.length_drop, List.length_take]; rfl)) ?_; (with_reducible refine (civil_Days.calls 2000 3 1 t124 t125 _ A1.out (by first | exact hG | exact hG.drewN _ | exact (hG.drewN _).drewN _)).mono ?_); rintro e w' ⟨rfl, ⟨nd, rfl⟩⟩; refine ⟨_, rfl, ?_⟩) | ((with_reducible refine gate_callee (f := 22) rfl ?_); refine goesL_ (some 20) rfl rfl Tryd.func22 (by kernel_rfl) rfl #[.int .i64 (-1)] rfl (by (try simp only [List.map_toArray, List.map_cons, List.map_nil]); first | done | rfl | (simp only [List.length_drop, List.length_take]; rfl)) ?_; (with_reducible refine (civil_Date.calls (-1) t126 t127 t128 t129 _ A2.out (by first | exact hG | exact hG.drewN _ | exact (hG.drewN _).drewN _)).mono ?_); rintro e w' ⟨rfl, ⟨nd, rfl⟩⟩; refine ⟨_, rfl, ?_⟩) | ((with_reducible refine gate_callee (f := 13) rfl ?_); refine goesL_ (some 26) rfl rfl Tryd.func13 (by kernel_rfl) rfl #[.int .i64 1900, .int .i64 2, .int .i64 29] rfl (by (try simp only [List.map_toArray, List.map_cons, List.map_nil]); first | done | rfl | (simp only [List.length_drop, List.length_take]; rfl)) ?_; (with_reducible refine (civil_Days.calls 1900 2 29 t130 t131 _ A3.out (by first | exact hG | exact hG.drewN _ | exact (hG.drewN _).drewN _)).mono ?_); rintro e w' ⟨rfl, ⟨nd, rfl⟩⟩; refine ⟨_, rfl, ?_⟩) | ((with_reducible refine gate_callee (f := 22) rfl ?_); refine goesL_ (some 30) rfl rfl Tryd.func22 (by kernel_rfl) rfl #[.int .i64 1125899906842624] rfl (by (try simp only [List.map_toArray, List.map_cons, List.map_nil]); first | done | rfl | (simp only [List.length_drop, List.length_take]; rfl)) ?_; (with_reducible refine (civil_Date.calls 1125899906842624 t132 t133 t134 t135 _ A4.out (by first | exact hG | exact hG.drewN _ | exact (hG.drewN _).drewN _)).mono ?_); rintro e w' ⟨rfl, ⟨nd, rfl⟩⟩; refine ⟨_, rfl, ?_⟩) | ((with_reducible refine gate_callee (f := 14) rfl ?_); refine goesL_ (some 36) rfl rfl Tryd.func14 (by kernel_rfl) rfl #[.int .i64 2024, .int .i64 12, .int .i64 31] rfl (by (try simp only [List.map_toArray, List.map_cons, List.map_nil]); first | done | rfl | (simp only [List.length_drop, List.length_take]; rfl)) ?_; (with_reducible refine (civil_Yearday.calls 2024 12 31 t136 t137 _ A5.out (by first | exact hG | exact hG.drewN _ | exact (hG.drewN _).drewN _)).mono ?_); rintro e w' ⟨rfl, ⟨nd, rfl⟩⟩; refine ⟨_, rfl, ?_⟩) | (go_at_call 25; (with_reducible refine (civil_Weekday.calls (-1) t138 _ A14.out (by first | exact hG | exact hG.drewN _ | exact (hG.drewN _).drewN _)).mono ?_); rintro e w' ⟨rfl, ⟨nd, rfl⟩⟩))
                        go_ret
                        exact ⟨by first | rfl | (simp; done) | (simp [*]; done), by repeat (first | exact Drawn0.refl _ | apply Drawn0.step)⟩
                    · rw [if_neg c16] at H
                      have c16b0 : (t136 == 365) = false := beq_eq_false_iff_ne.mpr c16
                      have c16b1 : (t136 != 365) = true := bne_iff_ne.mpr c16
                      obtain rfl := Option.some.inj H
                      go_enter Tryd.func11, Tryd.ntmps11
                      go_wp2_with (first | ((with_reducible refine gate_callee (f := 13) rfl ?_); refine goesL_ (some 16) rfl rfl Tryd.func13 (by kernel_rfl) rfl #[.int .i64 2000, .int .i64 3, .int .i64 1] rfl (by (try simp only [List.map_toArray, List.map_cons, List.map_nil]); first | done | rfl | (simp only [List.length_drop, List.length_take]; rfl)) ?_; (with_reducible refine (civil_Days.calls 2000 3 1 t124 t125 _ A1.out (by first | exact hG | exact hG.drewN _ | exact (hG.drewN _).drewN _)).mono ?_); rintro e w' ⟨rfl, ⟨nd, rfl⟩⟩; refine ⟨_, rfl, ?_⟩) | ((with_reducible refine gate_callee (f := 22) rfl ?_); refine goesL_ (some 20) rfl rfl Tryd.func22 (by kernel_rfl) rfl #[.int .i64 (-1)] rfl (by (try simp only [List.map_toArray, List.map_cons, List.map_nil]); first | done | rfl | (simp only [List.length_drop, List.length_take]; rfl)) ?_; (with_reducible refine (civil_Date.calls (-1) t126 t127 t128 t129 _ A2.out (by first | exact hG | exact hG.drewN _ | exact (hG.drewN _).drewN _)).mono ?_); rintro e w' ⟨rfl, ⟨nd, rfl⟩⟩; refine ⟨_, rfl, ?_⟩) | ((with_reducible refine gate_callee (f := 13) rfl ?_); refine goesL_ (some 26) rfl rfl Tryd.func13 (by kernel_rfl) rfl #[.int .i64 1900, .int .i64 2, .int .i64 29] rfl (by (try simp only [List.map_toArray, List.map_cons, List.map_nil]); first | done | rfl | (simp only [List.length_drop, List.length_take]; rfl)) ?_; (with_reducible refine (civil_Days.calls 1900 2 29 t130 t131 _ A3.out (by first | exact hG | exact hG.drewN _ | exact (hG.drewN _).drewN _)).mono ?_); rintro e w' ⟨rfl, ⟨nd, rfl⟩⟩; refine ⟨_, rfl, ?_⟩) | ((with_reducible refine gate_callee (f := 22) rfl ?_); refine goesL_ (some 30) rfl rfl Tryd.func22 (by kernel_rfl) rfl #[.int .i64 1125899906842624] rfl (by (try simp only [List.map_toArray, List.map_cons, List.map_nil]); first | done | rfl | (simp only [List.length_drop, List.length_take]; rfl)) ?_; (with_reducible refine (civil_Date.calls 1125899906842624 t132 t133 t134 t135 _ A4.out (by first | exact hG | exact hG.drewN _ | exact (hG.drewN _).drewN _)).mono ?_); rintro e w' ⟨rfl, ⟨nd, rfl⟩⟩; refine ⟨_, rfl, ?_⟩) | ((with_reducible refine gate_callee (f := 14) rfl ?_); refine goesL_ (some 36) rfl rfl Tryd.func14 (by kernel_rfl) rfl #[.int .i64 2024, .int .i64 12, .int .i64 31] rfl (by (try simp only [List.map_toArray, List.map_cons, List.map_nil]); first | done | rfl | (simp only [List.length_drop, List.length_take]; rfl)) ?_; (with_reducible refine (civil_Yearday.calls 2024 12 31 t136 t137 _ A5.out (by first | exact hG | exact hG.drewN _ | exact (hG.drewN _).drewN _)).mono ?_); rintro e w' ⟨rfl, ⟨nd, rfl⟩⟩; refine ⟨_, rfl, ?_⟩) | (go_at_call 25; (with_reducible refine (civil_Weekday.calls (-1) t138 _ A14.out (by first | exact hG | exact hG.drewN _ | exact (hG.drewN _).drewN _)).mono ?_); rintro e w' ⟨rfl, ⟨nd, rfl⟩⟩))
                      go_ret
                      exact ⟨by first | rfl | (simp; done) | (simp [*]; done), by repeat (first | exact Drawn0.refl _ | apply Drawn0.step)⟩
                  · rw [if_neg c15] at H
                    have c15b0 : (t138 == 3) = false := beq_eq_false_iff_ne.mpr c15
                    have c15b1 : (t138 != 3) = true := bne_iff_ne.mpr c15
                    obtain rfl := Option.some.inj H
                    go_enter Tryd.func11, Tryd.ntmps11
                    go_wp2_with (first | ((with_reducible refine gate_callee (f := 13) rfl ?_); refine goesL_ (some 16) rfl rfl Tryd.func13 (by kernel_rfl) rfl #[.int .i64 2000, .int .i64 3, .int .i64 1] rfl (by (try simp only [List.map_toArray, List.map_cons, List.map_nil]); first | done | rfl | (simp only [List.length_drop, List.length_take]; rfl)) ?_; (with_reducible refine (civil_Days.calls 2000 3 1 t124 t125 _ A1.out (by first | exact hG | exact hG.drewN _ | exact (hG.drewN _).drewN _)).mono ?_); rintro e w' ⟨rfl, ⟨nd, rfl⟩⟩; refine ⟨_, rfl, ?_⟩) | ((with_reducible refine gate_callee (f := 22) rfl ?_); refine goesL_ (some 20) rfl rfl Tryd.func22 (by kernel_rfl) rfl #[.int .i64 (-1)] rfl (by (try simp only [List.map_toArray, List.map_cons, List.map_nil]); first | done | rfl | (simp only [List.length_drop, List.length_take]; rfl)) ?_; (with_reducible refine (civil_Date.calls (-1) t126 t127 t128 t129 _ A2.out (by first | exact hG | exact hG.drewN _ | exact (hG.drewN _).drewN _)).mono ?_); rintro e w' ⟨rfl, ⟨nd, rfl⟩⟩; refine ⟨_, rfl, ?_⟩) | ((with_reducible refine gate_callee (f := 13) rfl ?_); refine goesL_ (some 26) rfl rfl Tryd.func13 (by kernel_rfl) rfl #[.int .i64 1900, .int .i64 2, .int .i64 29] rfl (by (try simp only [List.map_toArray, List.map_cons, List.map_nil]); first | done | rfl | (simp only [List.length_drop, List.length_take]; rfl)) ?_; (with_reducible refine (civil_Days.calls 1900 2 29 t130 t131 _ A3.out (by first | exact hG | exact hG.drewN _ | exact (hG.drewN _).drewN _)).mono ?_); rintro e w' ⟨rfl, ⟨nd, rfl⟩⟩; refine ⟨_, rfl, ?_⟩) | ((with_reducible refine gate_callee (f := 22) rfl ?_); refine goesL_ (some 30) rfl rfl Tryd.func22 (by kernel_rfl) rfl #[.int .i64 1125899906842624] rfl (by (try simp only [List.map_toArray, List.map_cons, List.map_nil]); first | done | rfl | (simp only [List.length_drop, List.length_take]; rfl)) ?_; (with_reducible refine (civil_Date.calls 1125899906842624 t132 t133 t134 t135 _ A4.out (by first | exact hG | exact hG.drewN _ | exact (hG.drewN _).drewN _)).mono ?_); rintro e w' ⟨rfl, ⟨nd, rfl⟩⟩; refine ⟨_, rfl, ?_⟩) | ((with_reducible refine gate_callee (f := 14) rfl ?_); refine goesL_ (some 36) rfl rfl Tryd.func14 (by kernel_rfl) rfl #[.int .i64 2024, .int .i64 12, .int .i64 31] rfl (by (try simp only [List.map_toArray, List.map_cons, List.map_nil]); first | done | rfl | (simp only [List.length_drop, List.length_take]; rfl)) ?_; (with_reducible refine (civil_Yearday.calls 2024 12 31 t136 t137 _ A5.out (by first | exact hG | exact hG.drewN _ | exact (hG.drewN _).drewN _)).mono ?_); rintro e w' ⟨rfl, ⟨nd, rfl⟩⟩; refine ⟨_, rfl, ?_⟩) | (go_at_call 25; (with_reducible refine (civil_Weekday.calls (-1) t138 _ A14.out (by first | exact hG | exact hG.drewN _ | exact (hG.drewN _).drewN _)).mono ?_); rintro e w' ⟨rfl, ⟨nd, rfl⟩⟩))
                    go_ret
                    exact ⟨by first | rfl | (simp; done) | (simp [*]; done), by repeat (first | exact Drawn0.refl _ | apply Drawn0.step)⟩
                · rw [if_neg c13] at H
                  have c13b0 : (t135 == 2) = false := beq_eq_false_iff_ne.mpr c13
                  have c13b1 : (t135 != 2) = true := bne_iff_ne.mpr c13
                  obtain rfl := Option.some.inj H
                  go_enter Tryd.func11, Tryd.ntmps11
                  go_wp2_with (first | ((with_reducible refine gate_callee (f := 13) rfl ?_); refine goesL_ (some 16) rfl rfl Tryd.func13 (by kernel_rfl) rfl #[.int .i64 2000, .int .i64 3, .int .i64 1] rfl (by (try simp only [List.map_toArray, List.map_cons, List.map_nil]); first | done | rfl | (simp only [List.length_drop, List.length_take]; rfl)) ?_; (with_reducible refine (civil_Days.calls 2000 3 1 t124 t125 _ A1.out (by first | exact hG | exact hG.drewN _ | exact (hG.drewN _).drewN _)).mono ?_); rintro e w' ⟨rfl, ⟨nd, rfl⟩⟩; refine ⟨_, rfl, ?_⟩) | ((with_reducible refine gate_callee (f := 22) rfl ?_); refine goesL_ (some 20) rfl rfl Tryd.func22 (by kernel_rfl) rfl #[.int .i64 (-1)] rfl (by (try simp only [List.map_toArray, List.map_cons, List.map_nil]); first | done | rfl | (simp only [List.length_drop, List.length_take]; rfl)) ?_; (with_reducible refine (civil_Date.calls (-1) t126 t127 t128 t129 _ A2.out (by first | exact hG | exact hG.drewN _ | exact (hG.drewN _).drewN _)).mono ?_); rintro e w' ⟨rfl, ⟨nd, rfl⟩⟩; refine ⟨_, rfl, ?_⟩) | ((with_reducible refine gate_callee (f := 13) rfl ?_); refine goesL_ (some 26) rfl rfl Tryd.func13 (by kernel_rfl) rfl #[.int .i64 1900, .int .i64 2, .int .i64 29] rfl (by (try simp only [List.map_toArray, List.map_cons, List.map_nil]); first | done | rfl | (simp only [List.length_drop, List.length_take]; rfl)) ?_; (with_reducible refine (civil_Days.calls 1900 2 29 t130 t131 _ A3.out (by first | exact hG | exact hG.drewN _ | exact (hG.drewN _).drewN _)).mono ?_); rintro e w' ⟨rfl, ⟨nd, rfl⟩⟩; refine ⟨_, rfl, ?_⟩) | ((with_reducible refine gate_callee (f := 22) rfl ?_); refine goesL_ (some 30) rfl rfl Tryd.func22 (by kernel_rfl) rfl #[.int .i64 1125899906842624] rfl (by (try simp only [List.map_toArray, List.map_cons, List.map_nil]); first | done | rfl | (simp only [List.length_drop, List.length_take]; rfl)) ?_; (with_reducible refine (civil_Date.calls 1125899906842624 t132 t133 t134 t135 _ A4.out (by first | exact hG | exact hG.drewN _ | exact (hG.drewN _).drewN _)).mono ?_); rintro e w' ⟨rfl, ⟨nd, rfl⟩⟩; refine ⟨_, rfl, ?_⟩) | ((with_reducible refine gate_callee (f := 14) rfl ?_); refine goesL_ (some 36) rfl rfl Tryd.func14 (by kernel_rfl) rfl #[.int .i64 2024, .int .i64 12, .int .i64 31] rfl (by (try simp only [List.map_toArray, List.map_cons, List.map_nil]); first | done | rfl | (simp only [List.length_drop, List.length_take]; rfl)) ?_; (with_reducible refine (civil_Yearday.calls 2024 12 31 t136 t137 _ A5.out (by first | exact hG | exact hG.drewN _ | exact (hG.drewN _).drewN _)).mono ?_); rintro e w' ⟨rfl, ⟨nd, rfl⟩⟩; refine ⟨_, rfl, ?_⟩))
                  go_ret
                  exact ⟨by first | rfl | (simp; done) | (simp [*]; done), by repeat (first | exact Drawn0.refl _ | apply Drawn0.step)⟩
              · rw [if_neg c12] at H
                have c12b0 : (t131 == 1) = false := beq_eq_false_iff_ne.mpr c12
                have c12b1 : (t131 != 1) = true := bne_iff_ne.mpr c12
                obtain rfl := Option.some.inj H
                go_enter Tryd.func11, Tryd.ntmps11
                go_wp2_with (first | ((with_reducible refine gate_callee (f := 13) rfl ?_); refine goesL_ (some 16) rfl rfl Tryd.func13 (by kernel_rfl) rfl #[.int .i64 2000, .int .i64 3, .int .i64 1] rfl (by (try simp only [List.map_toArray, List.map_cons, List.map_nil]); first | done | rfl | (simp only [List.length_drop, List.length_take]; rfl)) ?_; (with_reducible refine (civil_Days.calls 2000 3 1 t124 t125 _ A1.out (by first | exact hG | exact hG.drewN _ | exact (hG.drewN _).drewN _)).mono ?_); rintro e w' ⟨rfl, ⟨nd, rfl⟩⟩; refine ⟨_, rfl, ?_⟩) | ((with_reducible refine gate_callee (f := 22) rfl ?_); refine goesL_ (some 20) rfl rfl Tryd.func22 (by kernel_rfl) rfl #[.int .i64 (-1)] rfl (by (try simp only [List.map_toArray, List.map_cons, List.map_nil]); first | done | rfl | (simp only [List.length_drop, List.length_take]; rfl)) ?_; (with_reducible refine (civil_Date.calls (-1) t126 t127 t128 t129 _ A2.out (by first | exact hG | exact hG.drewN _ | exact (hG.drewN _).drewN _)).mono ?_); rintro e w' ⟨rfl, ⟨nd, rfl⟩⟩; refine ⟨_, rfl, ?_⟩) | ((with_reducible refine gate_callee (f := 13) rfl ?_); refine goesL_ (some 26) rfl rfl Tryd.func13 (by kernel_rfl) rfl #[.int .i64 1900, .int .i64 2, .int .i64 29] rfl (by (try simp only [List.map_toArray, List.map_cons, List.map_nil]); first | done | rfl | (simp only [List.length_drop, List.length_take]; rfl)) ?_; (with_reducible refine (civil_Days.calls 1900 2 29 t130 t131 _ A3.out (by first | exact hG | exact hG.drewN _ | exact (hG.drewN _).drewN _)).mono ?_); rintro e w' ⟨rfl, ⟨nd, rfl⟩⟩; refine ⟨_, rfl, ?_⟩) | ((with_reducible refine gate_callee (f := 22) rfl ?_); refine goesL_ (some 30) rfl rfl Tryd.func22 (by kernel_rfl) rfl #[.int .i64 1125899906842624] rfl (by (try simp only [List.map_toArray, List.map_cons, List.map_nil]); first | done | rfl | (simp only [List.length_drop, List.length_take]; rfl)) ?_; (with_reducible refine (civil_Date.calls 1125899906842624 t132 t133 t134 t135 _ A4.out (by first | exact hG | exact hG.drewN _ | exact (hG.drewN _).drewN _)).mono ?_); rintro e w' ⟨rfl, ⟨nd, rfl⟩⟩; refine ⟨_, rfl, ?_⟩) | ((with_reducible refine gate_callee (f := 14) rfl ?_); refine goesL_ (some 36) rfl rfl Tryd.func14 (by kernel_rfl) rfl #[.int .i64 2024, .int .i64 12, .int .i64 31] rfl (by (try simp only [List.map_toArray, List.map_cons, List.map_nil]); first | done | rfl | (simp only [List.length_drop, List.length_take]; rfl)) ?_; (with_reducible refine (civil_Yearday.calls 2024 12 31 t136 t137 _ A5.out (by first | exact hG | exact hG.drewN _ | exact (hG.drewN _).drewN _)).mono ?_); rintro e w' ⟨rfl, ⟨nd, rfl⟩⟩; refine ⟨_, rfl, ?_⟩))
                go_ret
                exact ⟨by first | rfl | (simp; done) | (simp [*]; done), by repeat (first | exact Drawn0.refl _ | apply Drawn0.step)⟩
            · rw [if_neg c11] at H
              have c11b0 : (t129 == 0) = false := beq_eq_false_iff_ne.mpr c11
              have c11b1 : (t129 != 0) = true := bne_iff_ne.mpr c11
              obtain rfl := Option.some.inj H
              go_enter Tryd.func11, Tryd.ntmps11
              go_wp2_with (first | ((with_reducible refine gate_callee (f := 13) rfl ?_); refine goesL_ (some 16) rfl rfl Tryd.func13 (by kernel_rfl) rfl #[.int .i64 2000, .int .i64 3, .int .i64 1] rfl (by (try simp only [List.map_toArray, List.map_cons, List.map_nil]); first | done | rfl | (simp only [List.length_drop, List.length_take]; rfl)) ?_; (with_reducible refine (civil_Days.calls 2000 3 1 t124 t125 _ A1.out (by first | exact hG | exact hG.drewN _ | exact (hG.drewN _).drewN _)).mono ?_); rintro e w' ⟨rfl, ⟨nd, rfl⟩⟩; refine ⟨_, rfl, ?_⟩) | ((with_reducible refine gate_callee (f := 22) rfl ?_); refine goesL_ (some 20) rfl rfl Tryd.func22 (by kernel_rfl) rfl #[.int .i64 (-1)] rfl (by (try simp only [List.map_toArray, List.map_cons, List.map_nil]); first | done | rfl | (simp only [List.length_drop, List.length_take]; rfl)) ?_; (with_reducible refine (civil_Date.calls (-1) t126 t127 t128 t129 _ A2.out (by first | exact hG | exact hG.drewN _ | exact (hG.drewN _).drewN _)).mono ?_); rintro e w' ⟨rfl, ⟨nd, rfl⟩⟩; refine ⟨_, rfl, ?_⟩) | ((with_reducible refine gate_callee (f := 13) rfl ?_); refine goesL_ (some 26) rfl rfl Tryd.func13 (by kernel_rfl) rfl #[.int .i64 1900, .int .i64 2, .int .i64 29] rfl (by (try simp only [List.map_toArray, List.map_cons, List.map_nil]); first | done | rfl | (simp only [List.length_drop, List.length_take]; rfl)) ?_; (with_reducible refine (civil_Days.calls 1900 2 29 t130 t131 _ A3.out (by first | exact hG | exact hG.drewN _ | exact (hG.drewN _).drewN _)).mono ?_); rintro e w' ⟨rfl, ⟨nd, rfl⟩⟩; refine ⟨_, rfl, ?_⟩) | ((with_reducible refine gate_callee (f := 22) rfl ?_); refine goesL_ (some 30) rfl rfl Tryd.func22 (by kernel_rfl) rfl #[.int .i64 1125899906842624] rfl (by (try simp only [List.map_toArray, List.map_cons, List.map_nil]); first | done | rfl | (simp only [List.length_drop, List.length_take]; rfl)) ?_; (with_reducible refine (civil_Date.calls 1125899906842624 t132 t133 t134 t135 _ A4.out (by first | exact hG | exact hG.drewN _ | exact (hG.drewN _).drewN _)).mono ?_); rintro e w' ⟨rfl, ⟨nd, rfl⟩⟩; refine ⟨_, rfl, ?_⟩) | ((with_reducible refine gate_callee (f := 14) rfl ?_); refine goesL_ (some 36) rfl rfl Tryd.func14 (by kernel_rfl) rfl #[.int .i64 2024, .int .i64 12, .int .i64 31] rfl (by (try simp only [List.map_toArray, List.map_cons, List.map_nil]); first | done | rfl | (simp only [List.length_drop, List.length_take]; rfl)) ?_; (with_reducible refine (civil_Yearday.calls 2024 12 31 t136 t137 _ A5.out (by first | exact hG | exact hG.drewN _ | exact (hG.drewN _).drewN _)).mono ?_); rintro e w' ⟨rfl, ⟨nd, rfl⟩⟩; refine ⟨_, rfl, ?_⟩))
              go_ret
              exact ⟨by first | rfl | (simp; done) | (simp [*]; done), by repeat (first | exact Drawn0.refl _ | apply Drawn0.step)⟩
          · rw [if_neg c10] at H
            have c10b0 : (t128 == 31) = false := beq_eq_false_iff_ne.mpr c10
            have c10b1 : (t128 != 31) = true := bne_iff_ne.mpr c10
            obtain rfl := Option.some.inj H
            go_enter Tryd.func11, Tryd.ntmps11
            go_wp2_with (first | ((with_reducible refine gate_callee (f := 13) rfl ?_); refine goesL_ (some 16) rfl rfl Tryd.func13 (by kernel_rfl) rfl #[.int .i64 2000, .int .i64 3, .int .i64 1] rfl (by (try simp only [List.map_toArray, List.map_cons, List.map_nil]); first | done | rfl | (simp only [List.length_drop, List.length_take]; rfl)) ?_; (with_reducible refine (civil_Days.calls 2000 3 1 t124 t125 _ A1.out (by first | exact hG | exact hG.drewN _ | exact (hG.drewN _).drewN _)).mono ?_); rintro e w' ⟨rfl, ⟨nd, rfl⟩⟩; refine ⟨_, rfl, ?_⟩) | ((with_reducible refine gate_callee (f := 22) rfl ?_); refine goesL_ (some 20) rfl rfl Tryd.func22 (by kernel_rfl) rfl #[.int .i64 (-1)] rfl (by (try simp only [List.map_toArray, List.map_cons, List.map_nil]); first | done | rfl | (simp only [List.length_drop, List.length_take]; rfl)) ?_; (with_reducible refine (civil_Date.calls (-1) t126 t127 t128 t129 _ A2.out (by first | exact hG | exact hG.drewN _ | exact (hG.drewN _).drewN _)).mono ?_); rintro e w' ⟨rfl, ⟨nd, rfl⟩⟩; refine ⟨_, rfl, ?_⟩) | ((with_reducible refine gate_callee (f := 13) rfl ?_); refine goesL_ (some 26) rfl rfl Tryd.func13 (by kernel_rfl) rfl #[.int .i64 1900, .int .i64 2, .int .i64 29] rfl (by (try simp only [List.map_toArray, List.map_cons, List.map_nil]); first | done | rfl | (simp only [List.length_drop, List.length_take]; rfl)) ?_; (with_reducible refine (civil_Days.calls 1900 2 29 t130 t131 _ A3.out (by first | exact hG | exact hG.drewN _ | exact (hG.drewN _).drewN _)).mono ?_); rintro e w' ⟨rfl, ⟨nd, rfl⟩⟩; refine ⟨_, rfl, ?_⟩) | ((with_reducible refine gate_callee (f := 22) rfl ?_); refine goesL_ (some 30) rfl rfl Tryd.func22 (by kernel_rfl) rfl #[.int .i64 1125899906842624] rfl (by (try simp only [List.map_toArray, List.map_cons, List.map_nil]); first | done | rfl | (simp only [List.length_drop, List.length_take]; rfl)) ?_; (with_reducible refine (civil_Date.calls 1125899906842624 t132 t133 t134 t135 _ A4.out (by first | exact hG | exact hG.drewN _ | exact (hG.drewN _).drewN _)).mono ?_); rintro e w' ⟨rfl, ⟨nd, rfl⟩⟩; refine ⟨_, rfl, ?_⟩) | ((with_reducible refine gate_callee (f := 14) rfl ?_); refine goesL_ (some 36) rfl rfl Tryd.func14 (by kernel_rfl) rfl #[.int .i64 2024, .int .i64 12, .int .i64 31] rfl (by (try simp only [List.map_toArray, List.map_cons, List.map_nil]); first | done | rfl | (simp only [List.length_drop, List.length_take]; rfl)) ?_; (with_reducible refine (civil_Yearday.calls 2024 12 31 t136 t137 _ A5.out (by first | exact hG | exact hG.drewN _ | exact (hG.drewN _).drewN _)).mono ?_); rintro e w' ⟨rfl, ⟨nd, rfl⟩⟩; refine ⟨_, rfl, ?_⟩))
            go_ret
            exact ⟨by first | rfl | (simp; done) | (simp [*]; done), by repeat (first | exact Drawn0.refl _ | apply Drawn0.step)⟩
        · rw [if_neg c9] at H
          have c9b0 : (t127 == 12) = false := beq_eq_false_iff_ne.mpr c9
          have c9b1 : (t127 != 12) = true := bne_iff_ne.mpr c9
          obtain rfl := Option.some.inj H
          go_enter Tryd.func11, Tryd.ntmps11
          go_wp2_with (first | ((with_reducible refine gate_callee (f := 13) rfl ?_); refine goesL_ (some 16) rfl rfl Tryd.func13 (by kernel_rfl) rfl #[.int .i64 2000, .int .i64 3, .int .i64 1] rfl (by (try simp only [List.map_toArray, List.map_cons, List.map_nil]); first | done | rfl | (simp only [List.length_drop, List.length_take]; rfl)) ?_; (with_reducible refine (civil_Days.calls 2000 3 1 t124 t125 _ A1.out (by first | exact hG | exact hG.drewN _ | exact (hG.drewN _).drewN _)).mono ?_); rintro e w' ⟨rfl, ⟨nd, rfl⟩⟩; refine ⟨_, rfl, ?_⟩) | ((with_reducible refine gate_callee (f := 22) rfl ?_); refine goesL_ (some 20) rfl rfl Tryd.func22 (by kernel_rfl) rfl #[.int .i64 (-1)] rfl (by (try simp only [List.map_toArray, List.map_cons, List.map_nil]); first | done | rfl | (simp only [List.length_drop, List.length_take]; rfl)) ?_; (with_reducible refine (civil_Date.calls (-1) t126 t127 t128 t129 _ A2.out (by first | exact hG | exact hG.drewN _ | exact (hG.drewN _).drewN _)).mono ?_); rintro e w' ⟨rfl, ⟨nd, rfl⟩⟩; refine ⟨_, rfl, ?_⟩) | ((with_reducible refine gate_callee (f := 13) rfl ?_); refine goesL_ (some 26) rfl rfl Tryd.func13 (by kernel_rfl) rfl #[.int .i64 1900, .int .i64 2, .int .i64 29] rfl (by (try simp only [List.map_toArray, List.map_cons, List.map_nil]); first | done | rfl | (simp only [List.length_drop, List.length_take]; rfl)) ?_; (with_reducible refine (civil_Days.calls 1900 2 29 t130 t131 _ A3.out (by first | exact hG | exact hG.drewN _ | exact (hG.drewN _).drewN _)).mono ?_); rintro e w' ⟨rfl, ⟨nd, rfl⟩⟩; refine ⟨_, rfl, ?_⟩) | ((with_reducible refine gate_callee (f := 22) rfl ?_); refine goesL_ (some 30) rfl rfl Tryd.func22 (by kernel_rfl) rfl #[.int .i64 1125899906842624] rfl (by (try simp only [List.map_toArray, List.map_cons, List.map_nil]); first | done | rfl | (simp only [List.length_drop, List.length_take]; rfl)) ?_; (with_reducible refine (civil_Date.calls 1125899906842624 t132 t133 t134 t135 _ A4.out (by first | exact hG | exact hG.drewN _ | exact (hG.drewN _).drewN _)).mono ?_); rintro e w' ⟨rfl, ⟨nd, rfl⟩⟩; refine ⟨_, rfl, ?_⟩) | ((with_reducible refine gate_callee (f := 14) rfl ?_); refine goesL_ (some 36) rfl rfl Tryd.func14 (by kernel_rfl) rfl #[.int .i64 2024, .int .i64 12, .int .i64 31] rfl (by (try simp only [List.map_toArray, List.map_cons, List.map_nil]); first | done | rfl | (simp only [List.length_drop, List.length_take]; rfl)) ?_; (with_reducible refine (civil_Yearday.calls 2024 12 31 t136 t137 _ A5.out (by first | exact hG | exact hG.drewN _ | exact (hG.drewN _).drewN _)).mono ?_); rintro e w' ⟨rfl, ⟨nd, rfl⟩⟩; refine ⟨_, rfl, ?_⟩))
          go_ret
          exact ⟨by first | rfl | (simp; done) | (simp [*]; done), by repeat (first | exact Drawn0.refl _ | apply Drawn0.step)⟩
      · rw [if_neg c8] at H
        have c8b0 : (t126 == 1969) = false := beq_eq_false_iff_ne.mpr c8
        have c8b1 : (t126 != 1969) = true := bne_iff_ne.mpr c8
        obtain rfl := Option.some.inj H
        go_enter Tryd.func11, Tryd.ntmps11
        go_wp2_with (first | ((with_reducible refine gate_callee (f := 13) rfl ?_); refine goesL_ (some 16) rfl rfl Tryd.func13 (by kernel_rfl) rfl #[.int .i64 2000, .int .i64 3, .int .i64 1] rfl (by (try simp only [List.map_toArray, List.map_cons, List.map_nil]); first | done | rfl | (simp only [List.length_drop, List.length_take]; rfl)) ?_; (with_reducible refine (civil_Days.calls 2000 3 1 t124 t125 _ A1.out (by first | exact hG | exact hG.drewN _ | exact (hG.drewN _).drewN _)).mono ?_); rintro e w' ⟨rfl, ⟨nd, rfl⟩⟩; refine ⟨_, rfl, ?_⟩) | ((with_reducible refine gate_callee (f := 22) rfl ?_); refine goesL_ (some 20) rfl rfl Tryd.func22 (by kernel_rfl) rfl #[.int .i64 (-1)] rfl (by (try simp only [List.map_toArray, List.map_cons, List.map_nil]); first | done | rfl | (simp only [List.length_drop, List.length_take]; rfl)) ?_; (with_reducible refine (civil_Date.calls (-1) t126 t127 t128 t129 _ A2.out (by first | exact hG | exact hG.drewN _ | exact (hG.drewN _).drewN _)).mono ?_); rintro e w' ⟨rfl, ⟨nd, rfl⟩⟩; refine ⟨_, rfl, ?_⟩) | ((with_reducible refine gate_callee (f := 13) rfl ?_); refine goesL_ (some 26) rfl rfl Tryd.func13 (by kernel_rfl) rfl #[.int .i64 1900, .int .i64 2, .int .i64 29] rfl (by (try simp only [List.map_toArray, List.map_cons, List.map_nil]); first | done | rfl | (simp only [List.length_drop, List.length_take]; rfl)) ?_; (with_reducible refine (civil_Days.calls 1900 2 29 t130 t131 _ A3.out (by first | exact hG | exact hG.drewN _ | exact (hG.drewN _).drewN _)).mono ?_); rintro e w' ⟨rfl, ⟨nd, rfl⟩⟩; refine ⟨_, rfl, ?_⟩) | ((with_reducible refine gate_callee (f := 22) rfl ?_); refine goesL_ (some 30) rfl rfl Tryd.func22 (by kernel_rfl) rfl #[.int .i64 1125899906842624] rfl (by (try simp only [List.map_toArray, List.map_cons, List.map_nil]); first | done | rfl | (simp only [List.length_drop, List.length_take]; rfl)) ?_; (with_reducible refine (civil_Date.calls 1125899906842624 t132 t133 t134 t135 _ A4.out (by first | exact hG | exact hG.drewN _ | exact (hG.drewN _).drewN _)).mono ?_); rintro e w' ⟨rfl, ⟨nd, rfl⟩⟩; refine ⟨_, rfl, ?_⟩) | ((with_reducible refine gate_callee (f := 14) rfl ?_); refine goesL_ (some 36) rfl rfl Tryd.func14 (by kernel_rfl) rfl #[.int .i64 2024, .int .i64 12, .int .i64 31] rfl (by (try simp only [List.map_toArray, List.map_cons, List.map_nil]); first | done | rfl | (simp only [List.length_drop, List.length_take]; rfl)) ?_; (with_reducible refine (civil_Yearday.calls 2024 12 31 t136 t137 _ A5.out (by first | exact hG | exact hG.drewN _ | exact (hG.drewN _).drewN _)).mono ?_); rintro e w' ⟨rfl, ⟨nd, rfl⟩⟩; refine ⟨_, rfl, ?_⟩))
        go_ret
        exact ⟨by first | rfl | (simp; done) | (simp [*]; done), by repeat (first | exact Drawn0.refl _ | apply Drawn0.step)⟩
    · rw [if_neg c7] at H
      have c7b0 : (t125 == 0) = false := beq_eq_false_iff_ne.mpr c7
      have c7b1 : (t125 != 0) = true := bne_iff_ne.mpr c7
      obtain rfl := Option.some.inj H
      go_enter Tryd.func11, Tryd.ntmps11
      go_wp2_with (first | ((with_reducible refine gate_callee (f := 13) rfl ?_); refine goesL_ (some 16) rfl rfl Tryd.func13 (by kernel_rfl) rfl #[.int .i64 2000, .int .i64 3, .int .i64 1] rfl (by (try simp only [List.map_toArray, List.map_cons, List.map_nil]); first | done | rfl | (simp only [List.length_drop, List.length_take]; rfl)) ?_; (with_reducible refine (civil_Days.calls 2000 3 1 t124 t125 _ A1.out (by first | exact hG | exact hG.drewN _ | exact (hG.drewN _).drewN _)).mono ?_); rintro e w' ⟨rfl, ⟨nd, rfl⟩⟩; refine ⟨_, rfl, ?_⟩) | ((with_reducible refine gate_callee (f := 22) rfl ?_); refine goesL_ (some 20) rfl rfl Tryd.func22 (by kernel_rfl) rfl #[.int .i64 (-1)] rfl (by (try simp only [List.map_toArray, List.map_cons, List.map_nil]); first | done | rfl | (simp only [List.length_drop, List.length_take]; rfl)) ?_; (with_reducible refine (civil_Date.calls (-1) t126 t127 t128 t129 _ A2.out (by first | exact hG | exact hG.drewN _ | exact (hG.drewN _).drewN _)).mono ?_); rintro e w' ⟨rfl, ⟨nd, rfl⟩⟩; refine ⟨_, rfl, ?_⟩) | ((with_reducible refine gate_callee (f := 13) rfl ?_); refine goesL_ (some 26) rfl rfl Tryd.func13 (by kernel_rfl) rfl #[.int .i64 1900, .int .i64 2, .int .i64 29] rfl (by (try simp only [List.map_toArray, List.map_cons, List.map_nil]); first | done | rfl | (simp only [List.length_drop, List.length_take]; rfl)) ?_; (with_reducible refine (civil_Days.calls 1900 2 29 t130 t131 _ A3.out (by first | exact hG | exact hG.drewN _ | exact (hG.drewN _).drewN _)).mono ?_); rintro e w' ⟨rfl, ⟨nd, rfl⟩⟩; refine ⟨_, rfl, ?_⟩) | ((with_reducible refine gate_callee (f := 22) rfl ?_); refine goesL_ (some 30) rfl rfl Tryd.func22 (by kernel_rfl) rfl #[.int .i64 1125899906842624] rfl (by (try simp only [List.map_toArray, List.map_cons, List.map_nil]); first | done | rfl | (simp only [List.length_drop, List.length_take]; rfl)) ?_; (with_reducible refine (civil_Date.calls 1125899906842624 t132 t133 t134 t135 _ A4.out (by first | exact hG | exact hG.drewN _ | exact (hG.drewN _).drewN _)).mono ?_); rintro e w' ⟨rfl, ⟨nd, rfl⟩⟩; refine ⟨_, rfl, ?_⟩) | ((with_reducible refine gate_callee (f := 14) rfl ?_); refine goesL_ (some 36) rfl rfl Tryd.func14 (by kernel_rfl) rfl #[.int .i64 2024, .int .i64 12, .int .i64 31] rfl (by (try simp only [List.map_toArray, List.map_cons, List.map_nil]); first | done | rfl | (simp only [List.length_drop, List.length_take]; rfl)) ?_; (with_reducible refine (civil_Yearday.calls 2024 12 31 t136 t137 _ A5.out (by first | exact hG | exact hG.drewN _ | exact (hG.drewN _).drewN _)).mono ?_); rintro e w' ⟨rfl, ⟨nd, rfl⟩⟩; refine ⟨_, rfl, ?_⟩))
      go_ret
      exact ⟨by first | rfl | (simp; done) | (simp [*]; done), by repeat (first | exact Drawn0.refl _ | apply Drawn0.step)⟩
  · rw [if_neg c6] at H
    have c6b0 : (t124 == 11017) = false := beq_eq_false_iff_ne.mpr c6
    have c6b1 : (t124 != 11017) = true := bne_iff_ne.mpr c6
    obtain rfl := Option.some.inj H
    go_enter Tryd.func11, Tryd.ntmps11
    go_wp2_with (first | ((with_reducible refine gate_callee (f := 13) rfl ?_); refine goesL_ (some 16) rfl rfl Tryd.func13 (by kernel_rfl) rfl #[.int .i64 2000, .int .i64 3, .int .i64 1] rfl (by (try simp only [List.map_toArray, List.map_cons, List.map_nil]); first | done | rfl | (simp only [List.length_drop, List.length_take]; rfl)) ?_; (with_reducible refine (civil_Days.calls 2000 3 1 t124 t125 _ A1.out (by first | exact hG | exact hG.drewN _ | exact (hG.drewN _).drewN _)).mono ?_); rintro e w' ⟨rfl, ⟨nd, rfl⟩⟩; refine ⟨_, rfl, ?_⟩) | ((with_reducible refine gate_callee (f := 22) rfl ?_); refine goesL_ (some 20) rfl rfl Tryd.func22 (by kernel_rfl) rfl #[.int .i64 (-1)] rfl (by (try simp only [List.map_toArray, List.map_cons, List.map_nil]); first | done | rfl | (simp only [List.length_drop, List.length_take]; rfl)) ?_; (with_reducible refine (civil_Date.calls (-1) t126 t127 t128 t129 _ A2.out (by first | exact hG | exact hG.drewN _ | exact (hG.drewN _).drewN _)).mono ?_); rintro e w' ⟨rfl, ⟨nd, rfl⟩⟩; refine ⟨_, rfl, ?_⟩) | ((with_reducible refine gate_callee (f := 13) rfl ?_); refine goesL_ (some 26) rfl rfl Tryd.func13 (by kernel_rfl) rfl #[.int .i64 1900, .int .i64 2, .int .i64 29] rfl (by (try simp only [List.map_toArray, List.map_cons, List.map_nil]); first | done | rfl | (simp only [List.length_drop, List.length_take]; rfl)) ?_; (with_reducible refine (civil_Days.calls 1900 2 29 t130 t131 _ A3.out (by first | exact hG | exact hG.drewN _ | exact (hG.drewN _).drewN _)).mono ?_); rintro e w' ⟨rfl, ⟨nd, rfl⟩⟩; refine ⟨_, rfl, ?_⟩) | ((with_reducible refine gate_callee (f := 22) rfl ?_); refine goesL_ (some 30) rfl rfl Tryd.func22 (by kernel_rfl) rfl #[.int .i64 1125899906842624] rfl (by (try simp only [List.map_toArray, List.map_cons, List.map_nil]); first | done | rfl | (simp only [List.length_drop, List.length_take]; rfl)) ?_; (with_reducible refine (civil_Date.calls 1125899906842624 t132 t133 t134 t135 _ A4.out (by first | exact hG | exact hG.drewN _ | exact (hG.drewN _).drewN _)).mono ?_); rintro e w' ⟨rfl, ⟨nd, rfl⟩⟩; refine ⟨_, rfl, ?_⟩) | ((with_reducible refine gate_callee (f := 14) rfl ?_); refine goesL_ (some 36) rfl rfl Tryd.func14 (by kernel_rfl) rfl #[.int .i64 2024, .int .i64 12, .int .i64 31] rfl (by (try simp only [List.map_toArray, List.map_cons, List.map_nil]); first | done | rfl | (simp only [List.length_drop, List.length_take]; rfl)) ?_; (with_reducible refine (civil_Yearday.calls 2024 12 31 t136 t137 _ A5.out (by first | exact hG | exact hG.drewN _ | exact (hG.drewN _).drewN _)).mono ?_); rintro e w' ⟨rfl, ⟨nd, rfl⟩⟩; refine ⟨_, rfl, ?_⟩))
    go_ret
    exact ⟨by first | rfl | (simp; done) | (simp [*]; done), by repeat (first | exact Drawn0.refl _ | apply Drawn0.step)⟩

/-! ### longcaseref02_Leap: function 17 -/
def longcaseref02_Leap.f (a0 : Int) : Option (Bool) := if (Int.tmod a0 4) = 0 then (if (Int.tmod a0 100) = 0 then (some ((Int.tmod a0 400) == 0)) else (some true)) else (some ((Int.tmod a0 400) == 0))
set_option maxHeartbeats 8000000 in
set_option maxRecDepth 100000 in
theorem longcaseref02_Leap.calls (a0 : Int) (r : Bool) (w : World) (h : longcaseref02_Leap.f a0 = some r) : Glob w →
    Calls Tryd.prog 17 #[.int .i64 a0] w fun e w' => e = .returned (.bool r) ∧ Drawn0 w w' := by
  intro hG
  have H : (if (Int.tmod a0 4) = 0 then (if (Int.tmod a0 100) = 0 then (some ((Int.tmod a0 400) == 0)) else (some true)) else (some ((Int.tmod a0 400) == 0))) = some r := h
  clear h
  by_cases c2 : (Int.tmod a0 4) = 0
  · rw [if_pos c2] at H
    have c2b0 : ((Int.tmod a0 4) == 0) = true := beq_iff_eq.mpr c2
    have c2b1 : ((Int.tmod a0 4) != 0) = false := bne_eq_false_iff_eq.mpr c2
    clear c2
    by_cases c3 : (Int.tmod a0 100) = 0
    · rw [if_pos c3] at H
      have c3b0 : ((Int.tmod a0 100) == 0) = true := beq_iff_eq.mpr c3
      have c3b1 : ((Int.tmod a0 100) != 0) = false := bne_eq_false_iff_eq.mpr c3
      clear c3
      obtain rfl := Option.some.inj H
      go_enter Tryd.func17, Tryd.ntmps17
      go_wp2
      go_ret
      exact ⟨by first | rfl | (simp; done) | (simp [*]; done), by repeat (first | exact Drawn0.refl _ | apply Drawn0.step)⟩
    · rw [if_neg c3] at H
      have c3b0 : ((Int.tmod a0 100) == 0) = false := beq_eq_false_iff_ne.mpr c3
      have c3b1 : ((Int.tmod a0 100) != 0) = true := bne_iff_ne.mpr c3
      obtain rfl := Option.some.inj H
      go_enter Tryd.func17, Tryd.ntmps17
      go_wp2
      go_ret
      exact ⟨by first | rfl | (simp; done) | (simp [*]; done), by repeat (first | exact Drawn0.refl _ | apply Drawn0.step)⟩
  · rw [if_neg c2] at H
    have c2b0 : ((Int.tmod a0 4) == 0) = false := beq_eq_false_iff_ne.mpr c2
    have c2b1 : ((Int.tmod a0 4) != 0) = true := bne_iff_ne.mpr c2
    obtain rfl := Option.some.inj H
    go_enter Tryd.func17, Tryd.ntmps17
    go_wp2
    go_ret
    exact ⟨by first | rfl | (simp; done) | (simp [*]; done), by repeat (first | exact Drawn0.refl _ | apply Drawn0.step)⟩

end Go.Proofs.YtmkmopphdkgjeaaDoor.PCiv
