-- Written by a program of the session's out of the translation. Not trusted: Lean checks it.
import Derived.Test.YtpmcmkobpjobbaaDoorPPAx0
namespace Go.Proofs.YtpmcmkobpjobbaaDoor.PPA
open Go.RowKit Go.Proofs.YtpmcmkobpjobbaaDoor.Hand Go.Proofs.YtpmcmkobpjobbaaDoorW.PrintWords Go.Proofs.YtpmcmkobpjobbaaDoorW.PrintLast Go.Proofs.YtpmcmkobpjobbaaDoorW.PrintMore
attribute [local go_sem] max2_int min2_int max_two min_two max_three min_three max_four min_four   -- for this text's walks alone
set_option linter.unusedVariables false
set_option linter.unusedSimpArgs false

/-! ### civil_may: function 38 -/
def civil_may.f (a0 : Int) : Option (Bool) := if a0 ≥ (-2147483648) then (some (decide (a0 ≤ 2147483647))) else (some false)
set_option maxHeartbeats 8000000 in
set_option maxRecDepth 100000 in
theorem civil_may.calls (a0 : Int) (r : Bool) (w : World) (h : civil_may.f a0 = some r) : Glob w →
    Calls Tryd.prog 38 #[.int .i64 a0] w fun e w' => e = .returned (.bool r) ∧ Drawn0 w w' := by
  intro hG
  have H : (if a0 ≥ (-2147483648) then (some (decide (a0 ≤ 2147483647))) else (some false)) = some r := h
  clear h
  by_cases c2 : a0 ≥ (-2147483648)
  · rw [if_pos c2] at H
    have c2b0 : decide ((-2147483648) ≤ a0) = true := decide_eq_true c2
    clear c2
    obtain rfl := Option.some.inj H
    go_enter Tryd.func38, Tryd.ntmps38
    go_wp2
    go_ret
    exact ⟨by first | rfl | (simp; done) | (simp [*]; done), by repeat (first | exact Drawn0.refl _ | apply Drawn0.step)⟩
  · rw [if_neg c2] at H
    have c2b0 : decide ((-2147483648) ≤ a0) = false := decide_eq_false c2
    clear c2
    obtain rfl := Option.some.inj H
    go_enter Tryd.func38, Tryd.ntmps38
    go_wp2
    go_ret
    exact ⟨by first | rfl | (simp; done) | (simp [*]; done), by repeat (first | exact Drawn0.refl _ | apply Drawn0.step)⟩

-- BY HAND: function 39 (civil_Length)

/-! ### civil_Right: function 27 -/
def civil_Right.f (a0 : Int) (a1 : Int) (a2 : Int) : Option (Bool) := (civil_may.f a0).bind fun t101 => (if t101 = true then (if a2 ≥ 1 then ((civil_Length.f a0 a1).bind fun t102 => (some (decide (a2 ≤ t102)))) else (some false)) else (some false))
set_option maxHeartbeats 8000000 in
set_option maxRecDepth 100000 in
theorem civil_Right.calls (a0 : Int) (a1 : Int) (a2 : Int) (r : Bool) (w : World) (h : civil_Right.f a0 a1 a2 = some r) : Glob w →
    Calls Tryd.prog 27 #[.int .i64 a0, .int .i64 a1, .int .i64 a2] w fun e w' => e = .returned (.bool r) ∧ Drawn0 w w' := by
  intro hG
  have H : ((civil_may.f a0).bind fun t101 => (if t101 = true then (if a2 ≥ 1 then ((civil_Length.f a0 a1).bind fun t102 => (some (decide (a2 ≤ t102)))) else (some false)) else (some false))) = some r := h
  clear h
  replace H := Option.bind_eq_some_iff.mp H
  obtain ⟨t101, A40, H⟩ := H
  replace H : (if t101 = true then (if a2 ≥ 1 then ((civil_Length.f a0 a1).bind fun t102 => (some (decide (a2 ≤ t102)))) else (some false)) else (some false)) = some r := H
  have A4 := Aside0.mk A40
  clear A40
  by_cases c5 : t101 = true
  · subst c5
    have H1 : (if a2 ≥ 1 then ((civil_Length.f a0 a1).bind fun t102 => (some (decide (a2 ≤ t102)))) else (some false)) = some r := by rw [if_pos rfl] at H; exact H
    clear H
    have H := H1
    clear H1
    by_cases c6 : a2 ≥ 1
    · rw [if_pos c6] at H
      have c6b0 : decide (1 ≤ a2) = true := decide_eq_true c6
      clear c6
      replace H := Option.bind_eq_some_iff.mp H
      obtain ⟨t102, A70, H⟩ := H
      replace H : (some (decide (a2 ≤ t102))) = some r := H
      have A7 := Aside0.mk A70
      clear A70
      obtain rfl := Option.some.inj H
      go_enter Tryd.func27, Tryd.ntmps27
      go_wp2_with (first | ((with_reducible refine gate_callee (f := 38) rfl ?_); refine goesL_ (some 8) rfl rfl Tryd.func38 (by kernel_rfl) rfl #[.int .i64 a0] rfl (by (try simp only [List.map_toArray, List.map_cons, List.map_nil]); first | done | rfl | (simp only [List.length_drop, List.length_take]; rfl)) ?_; (with_reducible refine (civil_may.calls a0 true _ A4.out (by first | exact hG | exact hG.drewN _ | exact (hG.drewN _).drewN _ | exact hG.below HB.out | exact hG.below (by repeat (first | (with_reducible first | exact HB.out | apply below_alloc | apply pw_below_drewN | apply below_drew1 | refine below_set ?_ (Aside0.out (by assumption))) | exact HB.out)))).mono ?_); rintro e w' ⟨rfl, ⟨nd, rfl⟩⟩; refine ⟨_, rfl, ?_⟩) | (go_at_call 39; (with_reducible refine (civil_Length.calls a0 a1 t102 _ A7.out (by first | exact hG | exact hG.drewN _ | exact (hG.drewN _).drewN _ | exact hG.below HB.out | exact hG.below (by repeat (first | (with_reducible first | exact HB.out | apply below_alloc | apply pw_below_drewN | apply below_drew1 | refine below_set ?_ (Aside0.out (by assumption))) | exact HB.out)))).mono ?_); rintro e w' ⟨rfl, ⟨nd, rfl⟩⟩))
      go_ret
      exact ⟨by first | rfl | (simp; done) | (simp [*]; done), by repeat (first | exact Drawn0.refl _ | apply Drawn0.step)⟩
    · rw [if_neg c6] at H
      have c6b0 : decide (1 ≤ a2) = false := decide_eq_false c6
      clear c6
      obtain rfl := Option.some.inj H
      go_enter Tryd.func27, Tryd.ntmps27
      go_wp2_with (first | ((with_reducible refine gate_callee (f := 38) rfl ?_); refine goesL_ (some 8) rfl rfl Tryd.func38 (by kernel_rfl) rfl #[.int .i64 a0] rfl (by (try simp only [List.map_toArray, List.map_cons, List.map_nil]); first | done | rfl | (simp only [List.length_drop, List.length_take]; rfl)) ?_; (with_reducible refine (civil_may.calls a0 true _ A4.out (by first | exact hG | exact hG.drewN _ | exact (hG.drewN _).drewN _ | exact hG.below HB.out | exact hG.below (by repeat (first | (with_reducible first | exact HB.out | apply below_alloc | apply pw_below_drewN | apply below_drew1 | refine below_set ?_ (Aside0.out (by assumption))) | exact HB.out)))).mono ?_); rintro e w' ⟨rfl, ⟨nd, rfl⟩⟩; refine ⟨_, rfl, ?_⟩))
      go_ret
      exact ⟨by first | rfl | (simp; done) | (simp [*]; done), by repeat (first | exact Drawn0.refl _ | apply Drawn0.step)⟩
  · replace c5 := Bool.eq_false_iff.mpr c5
    subst c5
    have H1 : (some false) = some r := by rw [if_neg (show ¬ (false = true) by decide)] at H; exact H
    clear H
    have H := H1
    clear H1
    obtain rfl := Option.some.inj H
    go_enter Tryd.func27, Tryd.ntmps27
    go_wp2_with (first | ((with_reducible refine gate_callee (f := 38) rfl ?_); refine goesL_ (some 8) rfl rfl Tryd.func38 (by kernel_rfl) rfl #[.int .i64 a0] rfl (by (try simp only [List.map_toArray, List.map_cons, List.map_nil]); first | done | rfl | (simp only [List.length_drop, List.length_take]; rfl)) ?_; (with_reducible refine (civil_may.calls a0 false _ A4.out (by first | exact hG | exact hG.drewN _ | exact (hG.drewN _).drewN _ | exact hG.below HB.out | exact hG.below (by repeat (first | (with_reducible first | exact HB.out | apply below_alloc | apply pw_below_drewN | apply below_drew1 | refine below_set ?_ (Aside0.out (by assumption))) | exact HB.out)))).mono ?_); rintro e w' ⟨rfl, ⟨nd, rfl⟩⟩; refine ⟨_, rfl, ?_⟩))
    go_ret
    exact ⟨by first | rfl | (simp; done) | (simp [*]; done), by repeat (first | exact Drawn0.refl _ | apply Drawn0.step)⟩

/-- THE ONE PURE STATEMENT of civil_Right: yours. -/
def civil_Right.Pure : Prop := ∀ (a0 : Int) (a1 : Int) (a2 : Int), (Lit.int .i64 a0).wf = true → (Lit.int .i64 a1).wf = true → (Lit.int .i64 a2).wf = true → civil_Right.f a0 a1 a2 = some true
theorem civil_Right.walk (P : civil_Right.Pure) (a0 : Int) (a1 : Int) (a2 : Int) (w : World) (w0 : (Lit.int .i64 a0).wf = true) (w1 : (Lit.int .i64 a1).wf = true) (w2 : (Lit.int .i64 a2).wf = true) (hG : Glob w) :
    Calls Tryd.prog 27 #[.int .i64 a0, .int .i64 a1, .int .i64 a2] w fun e w' => e = .returned (.bool true) ∧ Below w.heap.size w w' := by
  have h := P a0 a1 a2 w0 w1 w2
  refine (civil_Right.calls a0 a1 a2 true w h hG).mono ?_
  rintro e w' ⟨rfl, hd⟩
  exact ⟨rfl, hd.below⟩

/-! ### number_Div: function 30 -/
def number_Div.f (a0 : Int) (a1 : Int) : Option (Int × Int × Bool) := if a1 < 1 then (some (0, 0, false)) else (if a1 = 0 then (none) else (if (Int.tmod a0 a1) < 0 then (some (wrap64 ((wrap64 (Int.tdiv a0 a1)) - 1), wrap64 ((Int.tmod a0 a1) + a1), true)) else (some (wrap64 (Int.tdiv a0 a1), Int.tmod a0 a1, true))))
set_option maxHeartbeats 8000000 in
set_option maxRecDepth 100000 in
theorem number_Div.calls (a0 : Int) (a1 : Int) (r1 : Int) (r2 : Int) (r3 : Bool) (w : World) (h : number_Div.f a0 a1 = some (r1, r2, r3)) : Glob w →
    Calls Tryd.prog 30 #[.int .i64 a0, .int .i64 a1] w fun e w' => e = .returned (.tuple #[.int .i64 r1, .int .i64 r2, .bool r3]) ∧ Drawn0 w w' := by
  intro hG
  have H : (if a1 < 1 then (some (0, 0, false)) else (if a1 = 0 then (none) else (if (Int.tmod a0 a1) < 0 then (some (wrap64 ((wrap64 (Int.tdiv a0 a1)) - 1), wrap64 ((Int.tmod a0 a1) + a1), true)) else (some (wrap64 (Int.tdiv a0 a1), Int.tmod a0 a1, true))))) = some (r1, r2, r3) := h
  clear h
  by_cases c3 : a1 < 1
  · rw [if_pos c3] at H
    have c3b0 : decide (a1 < 1) = true := decide_eq_true c3
    clear c3
    simp only [Option.some.injEq, Prod.mk.injEq] at H
    obtain ⟨rfl, rfl, rfl⟩ := H
    go_enter Tryd.func30, Tryd.ntmps30
    go_wp2
    repeat (go_quiet (fail); try go_wp2)
    go_ret3
    exact ⟨by first | rfl | (simp; done) | (simp [*]; done), by repeat (first | exact Drawn0.refl _ | apply Drawn0.step)⟩
  · rw [if_neg c3] at H
    have c3b0 : decide (a1 < 1) = false := decide_eq_false c3
    clear c3
    by_cases c4 : a1 = 0
    · rw [if_pos c4] at H
      exact absurd H (by simp)
    · rw [if_neg c4] at H
      have c4b0 : (a1 == 0) = false := beq_eq_false_iff_ne.mpr c4
      have c4b1 : (a1 != 0) = true := bne_iff_ne.mpr c4
      by_cases c5 : (Int.tmod a0 a1) < 0
      · rw [if_pos c5] at H
        have c5b0 : decide ((Int.tmod a0 a1) < 0) = true := decide_eq_true c5
        clear c5
        simp only [Option.some.injEq, Prod.mk.injEq] at H
        obtain ⟨rfl, rfl, rfl⟩ := H
        go_enter Tryd.func30, Tryd.ntmps30
        go_wp2
        repeat (go_quiet (fail); try go_wp2)
        go_ret3
        exact ⟨by first | rfl | (simp; done) | (simp [*]; done), by repeat (first | exact Drawn0.refl _ | apply Drawn0.step)⟩
      · rw [if_neg c5] at H
        have c5b0 : decide ((Int.tmod a0 a1) < 0) = false := decide_eq_false c5
        clear c5
        simp only [Option.some.injEq, Prod.mk.injEq] at H
        obtain ⟨rfl, rfl, rfl⟩ := H
        go_enter Tryd.func30, Tryd.ntmps30
        go_wp2
        repeat (go_quiet (fail); try go_wp2)
        go_ret3
        exact ⟨by first | rfl | (simp; done) | (simp [*]; done), by repeat (first | exact Drawn0.refl _ | apply Drawn0.step)⟩

/-! ### civil_Days: function 23 -/
def civil_Days.f (a0 : Int) (a1 : Int) (a2 : Int) : Option (Int × Int) := (civil_Right.f a0 a1 a2).bind fun t103 => (if t103 = true then (if (wrap64 (a1 - 3)) < 0 then ((number_Div.f (wrap64 (a0 - 1)) 400).bind fun bt104 => (some (wrap64 ((wrap64 ((wrap64 ((wrap64 ((wrap64 ((wrap64 ((wrap64 ((wrap64 (bt104.1 * 146097)) + (wrap64 (bt104.2.1 * 365)))) + (wrap64 (Int.tdiv bt104.2.1 4)))) - (wrap64 (Int.tdiv bt104.2.1 100)))) + (wrap64 (Int.tdiv (wrap64 ((wrap64 (153 * (wrap64 ((wrap64 (a1 - 3)) + 12)))) + 2)) 5)))) + a2)) - 1)) - 719468), 0))) else ((number_Div.f a0 400).bind fun bt107 => (some (wrap64 ((wrap64 ((wrap64 ((wrap64 ((wrap64 ((wrap64 ((wrap64 ((wrap64 (bt107.1 * 146097)) + (wrap64 (bt107.2.1 * 365)))) + (wrap64 (Int.tdiv bt107.2.1 4)))) - (wrap64 (Int.tdiv bt107.2.1 100)))) + (wrap64 (Int.tdiv (wrap64 ((wrap64 (153 * (wrap64 (a1 - 3)))) + 2)) 5)))) + a2)) - 1)) - 719468), 0)))) else (some (0, 1)))
set_option maxHeartbeats 8000000 in
set_option maxRecDepth 100000 in
theorem civil_Days.calls (a0 : Int) (a1 : Int) (a2 : Int) (r1 : Int) (r2 : Int) (w : World) (h : civil_Days.f a0 a1 a2 = some (r1, r2)) : Glob w →
    Calls Tryd.prog 23 #[.int .i64 a0, .int .i64 a1, .int .i64 a2] w fun e w' => e = .returned (.tuple #[.int .i64 r1, .int .i64 r2]) ∧ Drawn0 w w' := by
  intro hG
  have H : ((civil_Right.f a0 a1 a2).bind fun t103 => (if t103 = true then (if (wrap64 (a1 - 3)) < 0 then ((number_Div.f (wrap64 (a0 - 1)) 400).bind fun bt104 => (some (wrap64 ((wrap64 ((wrap64 ((wrap64 ((wrap64 ((wrap64 ((wrap64 ((wrap64 (bt104.1 * 146097)) + (wrap64 (bt104.2.1 * 365)))) + (wrap64 (Int.tdiv bt104.2.1 4)))) - (wrap64 (Int.tdiv bt104.2.1 100)))) + (wrap64 (Int.tdiv (wrap64 ((wrap64 (153 * (wrap64 ((wrap64 (a1 - 3)) + 12)))) + 2)) 5)))) + a2)) - 1)) - 719468), 0))) else ((number_Div.f a0 400).bind fun bt107 => (some (wrap64 ((wrap64 ((wrap64 ((wrap64 ((wrap64 ((wrap64 ((wrap64 ((wrap64 (bt107.1 * 146097)) + (wrap64 (bt107.2.1 * 365)))) + (wrap64 (Int.tdiv bt107.2.1 4)))) - (wrap64 (Int.tdiv bt107.2.1 100)))) + (wrap64 (Int.tdiv (wrap64 ((wrap64 (153 * (wrap64 (a1 - 3)))) + 2)) 5)))) + a2)) - 1)) - 719468), 0)))) else (some (0, 1)))) = some (r1, r2) := h
  clear h
  replace H := Option.bind_eq_some_iff.mp H
  obtain ⟨t103, A40, H⟩ := H
  replace H : (if t103 = true then (if (wrap64 (a1 - 3)) < 0 then ((number_Div.f (wrap64 (a0 - 1)) 400).bind fun bt104 => (some (wrap64 ((wrap64 ((wrap64 ((wrap64 ((wrap64 ((wrap64 ((wrap64 ((wrap64 (bt104.1 * 146097)) + (wrap64 (bt104.2.1 * 365)))) + (wrap64 (Int.tdiv bt104.2.1 4)))) - (wrap64 (Int.tdiv bt104.2.1 100)))) + (wrap64 (Int.tdiv (wrap64 ((wrap64 (153 * (wrap64 ((wrap64 (a1 - 3)) + 12)))) + 2)) 5)))) + a2)) - 1)) - 719468), 0))) else ((number_Div.f a0 400).bind fun bt107 => (some (wrap64 ((wrap64 ((wrap64 ((wrap64 ((wrap64 ((wrap64 ((wrap64 ((wrap64 (bt107.1 * 146097)) + (wrap64 (bt107.2.1 * 365)))) + (wrap64 (Int.tdiv bt107.2.1 4)))) - (wrap64 (Int.tdiv bt107.2.1 100)))) + (wrap64 (Int.tdiv (wrap64 ((wrap64 (153 * (wrap64 (a1 - 3)))) + 2)) 5)))) + a2)) - 1)) - 719468), 0)))) else (some (0, 1))) = some (r1, r2) := H
  have A4 := Aside0.mk A40
  clear A40
  by_cases c5 : t103 = true
  · subst c5
    have H1 : (if (wrap64 (a1 - 3)) < 0 then ((number_Div.f (wrap64 (a0 - 1)) 400).bind fun bt104 => (some (wrap64 ((wrap64 ((wrap64 ((wrap64 ((wrap64 ((wrap64 ((wrap64 ((wrap64 (bt104.1 * 146097)) + (wrap64 (bt104.2.1 * 365)))) + (wrap64 (Int.tdiv bt104.2.1 4)))) - (wrap64 (Int.tdiv bt104.2.1 100)))) + (wrap64 (Int.tdiv (wrap64 ((wrap64 (153 * (wrap64 ((wrap64 (a1 - 3)) + 12)))) + 2)) 5)))) + a2)) - 1)) - 719468), 0))) else ((number_Div.f a0 400).bind fun bt107 => (some (wrap64 ((wrap64 ((wrap64 ((wrap64 ((wrap64 ((wrap64 ((wrap64 ((wrap64 (bt107.1 * 146097)) + (wrap64 (bt107.2.1 * 365)))) + (wrap64 (Int.tdiv bt107.2.1 4)))) - (wrap64 (Int.tdiv bt107.2.1 100)))) + (wrap64 (Int.tdiv (wrap64 ((wrap64 (153 * (wrap64 (a1 - 3)))) + 2)) 5)))) + a2)) - 1)) - 719468), 0)))) = some (r1, r2) := by rw [if_pos rfl] at H; exact H
    clear H
    have H := H1
    clear H1
    by_cases c6 : (wrap64 (a1 - 3)) < 0
    · rw [if_pos c6] at H
      have c6b0 : decide ((wrap64 (a1 - 3)) < 0) = true := decide_eq_true c6
      clear c6
      replace H := Option.bind_eq_some_iff.mp H
      obtain ⟨⟨t104, t105, t106⟩, A70, H⟩ := H
      replace H : (some (wrap64 ((wrap64 ((wrap64 ((wrap64 ((wrap64 ((wrap64 ((wrap64 ((wrap64 (t104 * 146097)) + (wrap64 (t105 * 365)))) + (wrap64 (Int.tdiv t105 4)))) - (wrap64 (Int.tdiv t105 100)))) + (wrap64 (Int.tdiv (wrap64 ((wrap64 (153 * (wrap64 ((wrap64 (a1 - 3)) + 12)))) + 2)) 5)))) + a2)) - 1)) - 719468), 0)) = some (r1, r2) := H
      have A7 := Aside0.mk A70
      clear A70
      simp only [Option.some.injEq, Prod.mk.injEq] at H
      obtain ⟨rfl, rfl⟩ := H
      go_enter Tryd.func23, Tryd.ntmps23
      go_wp2_with (first | ((with_reducible refine gate_callee (f := 27) rfl ?_); refine goesL_ (some 16) rfl rfl Tryd.func27 (by kernel_rfl) rfl #[.int .i64 a0, .int .i64 a1, .int .i64 a2] rfl (by (try simp only [List.map_toArray, List.map_cons, List.map_nil]); first | done | rfl | (simp only [List.length_drop, List.length_take]; rfl)) ?_; (with_reducible refine (civil_Right.calls a0 a1 a2 true _ A4.out (by first | exact hG | exact hG.drewN _ | exact (hG.drewN _).drewN _ | exact hG.below HB.out | exact hG.below (by repeat (first | (with_reducible first | exact HB.out | apply below_alloc | apply pw_below_drewN | apply below_drew1 | refine below_set ?_ (Aside0.out (by assumption))) | exact HB.out)))).mono ?_); rintro e w' ⟨rfl, ⟨nd, rfl⟩⟩; refine ⟨_, rfl, ?_⟩) | ((with_reducible refine gate_callee (f := 30) rfl ?_); refine goesL_ (some 29) rfl rfl Tryd.func30 (by kernel_rfl) rfl #[.int .i64 (wrap64 (a0 - 1)), .int .i64 400] rfl (by (try simp only [List.map_toArray, List.map_cons, List.map_nil]); first | done | rfl | (simp only [List.length_drop, List.length_take]; rfl)) ?_; (with_reducible refine (number_Div.calls (wrap64 (a0 - 1)) 400 t104 t105 t106 _ A7.out (by first | exact hG | exact hG.drewN _ | exact (hG.drewN _).drewN _ | exact hG.below HB.out | exact hG.below (by repeat (first | (with_reducible first | exact HB.out | apply below_alloc | apply pw_below_drewN | apply below_drew1 | refine below_set ?_ (Aside0.out (by assumption))) | exact HB.out)))).mono ?_); rintro e w' ⟨rfl, ⟨nd, rfl⟩⟩; refine ⟨_, rfl, ?_⟩))
      go_ret2
      exact ⟨by first | rfl | (simp; done) | (simp [*]; done), by repeat (first | exact Drawn0.refl _ | apply Drawn0.step)⟩
    · rw [if_neg c6] at H
      have c6b0 : decide ((wrap64 (a1 - 3)) < 0) = false := decide_eq_false c6
      clear c6
      replace H := Option.bind_eq_some_iff.mp H
      obtain ⟨⟨t107, t108, t109⟩, A80, H⟩ := H
      replace H : (some (wrap64 ((wrap64 ((wrap64 ((wrap64 ((wrap64 ((wrap64 ((wrap64 ((wrap64 (t107 * 146097)) + (wrap64 (t108 * 365)))) + (wrap64 (Int.tdiv t108 4)))) - (wrap64 (Int.tdiv t108 100)))) + (wrap64 (Int.tdiv (wrap64 ((wrap64 (153 * (wrap64 (a1 - 3)))) + 2)) 5)))) + a2)) - 1)) - 719468), 0)) = some (r1, r2) := H
      have A8 := Aside0.mk A80
      clear A80
      simp only [Option.some.injEq, Prod.mk.injEq] at H
      obtain ⟨rfl, rfl⟩ := H
      go_enter Tryd.func23, Tryd.ntmps23
      go_wp2_with (first | ((with_reducible refine gate_callee (f := 27) rfl ?_); refine goesL_ (some 16) rfl rfl Tryd.func27 (by kernel_rfl) rfl #[.int .i64 a0, .int .i64 a1, .int .i64 a2] rfl (by (try simp only [List.map_toArray, List.map_cons, List.map_nil]); first | done | rfl | (simp only [List.length_drop, List.length_take]; rfl)) ?_; (with_reducible refine (civil_Right.calls a0 a1 a2 true _ A4.out (by first | exact hG | exact hG.drewN _ | exact (hG.drewN _).drewN _ | exact hG.below HB.out | exact hG.below (by repeat (first | (with_reducible first | exact HB.out | apply below_alloc | apply pw_below_drewN | apply below_drew1 | refine below_set ?_ (Aside0.out (by assumption))) | exact HB.out)))).mono ?_); rintro e w' ⟨rfl, ⟨nd, rfl⟩⟩; refine ⟨_, rfl, ?_⟩) | ((with_reducible refine gate_callee (f := 30) rfl ?_); refine goesL_ (some 29) rfl rfl Tryd.func30 (by kernel_rfl) rfl #[.int .i64 a0, .int .i64 400] rfl (by (try simp only [List.map_toArray, List.map_cons, List.map_nil]); first | done | rfl | (simp only [List.length_drop, List.length_take]; rfl)) ?_; (with_reducible refine (number_Div.calls a0 400 t107 t108 t109 _ A8.out (by first | exact hG | exact hG.drewN _ | exact (hG.drewN _).drewN _ | exact hG.below HB.out | exact hG.below (by repeat (first | (with_reducible first | exact HB.out | apply below_alloc | apply pw_below_drewN | apply below_drew1 | refine below_set ?_ (Aside0.out (by assumption))) | exact HB.out)))).mono ?_); rintro e w' ⟨rfl, ⟨nd, rfl⟩⟩; refine ⟨_, rfl, ?_⟩))
      go_ret2
      exact ⟨by first | rfl | (simp; done) | (simp [*]; done), by repeat (first | exact Drawn0.refl _ | apply Drawn0.step)⟩
  · replace c5 := Bool.eq_false_iff.mpr c5
    subst c5
    have H1 : (some (0, 1)) = some (r1, r2) := by rw [if_neg (show ¬ (false = true) by decide)] at H; exact H
    clear H
    have H := H1
    clear H1
    simp only [Option.some.injEq, Prod.mk.injEq] at H
    obtain ⟨rfl, rfl⟩ := H
    go_enter Tryd.func23, Tryd.ntmps23
    go_wp2_with (first | ((with_reducible refine gate_callee (f := 27) rfl ?_); refine goesL_ (some 16) rfl rfl Tryd.func27 (by kernel_rfl) rfl #[.int .i64 a0, .int .i64 a1, .int .i64 a2] rfl (by (try simp only [List.map_toArray, List.map_cons, List.map_nil]); first | done | rfl | (simp only [List.length_drop, List.length_take]; rfl)) ?_; (with_reducible refine (civil_Right.calls a0 a1 a2 false _ A4.out (by first | exact hG | exact hG.drewN _ | exact (hG.drewN _).drewN _ | exact hG.below HB.out | exact hG.below (by repeat (first | (with_reducible first | exact HB.out | apply below_alloc | apply pw_below_drewN | apply below_drew1 | refine below_set ?_ (Aside0.out (by assumption))) | exact HB.out)))).mono ?_); rintro e w' ⟨rfl, ⟨nd, rfl⟩⟩; refine ⟨_, rfl, ?_⟩))
    go_ret2
    exact ⟨by first | rfl | (simp; done) | (simp [*]; done), by repeat (first | exact Drawn0.refl _ | apply Drawn0.step)⟩

/-! ### number_Add: function 42 -/
def number_Add.f (a0 : Int) (a1 : Int) : Option (Int × Bool) := if ((decide (a0 < 0)) == (decide (a1 < 0))) = true then (if ((decide ((wrap64 (a0 + a1)) < 0)) != (decide (a0 < 0))) = true then (some (0, false)) else (some (wrap64 (a0 + a1), true))) else (some (wrap64 (a0 + a1), true))
set_option maxHeartbeats 8000000 in
set_option maxRecDepth 100000 in
theorem number_Add.calls (a0 : Int) (a1 : Int) (r1 : Int) (r2 : Bool) (w : World) (h : number_Add.f a0 a1 = some (r1, r2)) : Glob w →
    Calls Tryd.prog 42 #[.int .i64 a0, .int .i64 a1] w fun e w' => e = .returned (.tuple #[.int .i64 r1, .bool r2]) ∧ Drawn0 w w' := by
  intro hG
  have H : (if ((decide (a0 < 0)) == (decide (a1 < 0))) = true then (if ((decide ((wrap64 (a0 + a1)) < 0)) != (decide (a0 < 0))) = true then (some (0, false)) else (some (wrap64 (a0 + a1), true))) else (some (wrap64 (a0 + a1), true))) = some (r1, r2) := h
  clear h
  by_cases c3 : ((decide (a0 < 0)) == (decide (a1 < 0))) = true
  · rw [if_pos c3] at H
    have c3b0 : ((decide (a0 < 0)) == (decide (a1 < 0))) = true := c3
    (try (have c3b1 : decide ((decide (a0 < 0)) = (decide (a1 < 0))) = true := by simpa using c3))
    (try (have c3b2 : ((decide (a0 < 0)) == (decide (a1 < 0))) = true := by simpa using c3))
    clear c3
    by_cases c4 : ((decide ((wrap64 (a0 + a1)) < 0)) != (decide (a0 < 0))) = true
    · rw [if_pos c4] at H
      have c4b0 : ((decide ((wrap64 (a0 + a1)) < 0)) != (decide (a0 < 0))) = true := c4
      (try (have c4b1 : decide ((decide ((wrap64 (a0 + a1)) < 0)) = (decide (a0 < 0))) = false := by simpa using c4))
      (try (have c4b2 : ((decide ((wrap64 (a0 + a1)) < 0)) == (decide (a0 < 0))) = false := by simpa using c4))
      (try (have c4b3 : ¬ ((decide ((wrap64 (a0 + a1)) < 0)) = (decide (a0 < 0))) := by simpa using c4))
      clear c4
      simp only [Option.some.injEq, Prod.mk.injEq] at H
      obtain ⟨rfl, rfl⟩ := H
      go_enter Tryd.func42, Tryd.ntmps42
      go_wp2
      go_ret2
      exact ⟨by first | rfl | (simp; done) | (simp [*]; done), by repeat (first | exact Drawn0.refl _ | apply Drawn0.step)⟩
    · rw [if_neg c4] at H
      have c4b0 : ((decide ((wrap64 (a0 + a1)) < 0)) != (decide (a0 < 0))) = false := by simpa using c4
      (try (have c4b1 : decide ((decide ((wrap64 (a0 + a1)) < 0)) = (decide (a0 < 0))) = true := by simpa using c4))
      (try (have c4b2 : ((decide ((wrap64 (a0 + a1)) < 0)) == (decide (a0 < 0))) = true := by simpa using c4))
      clear c4
      simp only [Option.some.injEq, Prod.mk.injEq] at H
      obtain ⟨rfl, rfl⟩ := H
      go_enter Tryd.func42, Tryd.ntmps42
      go_wp2
      go_ret2
      exact ⟨by first | rfl | (simp; done) | (simp [*]; done), by repeat (first | exact Drawn0.refl _ | apply Drawn0.step)⟩
  · rw [if_neg c3] at H
    have c3b0 : ((decide (a0 < 0)) == (decide (a1 < 0))) = false := by simpa using c3
    (try (have c3b1 : decide ((decide (a0 < 0)) = (decide (a1 < 0))) = false := by simpa using c3))
    (try (have c3b2 : ((decide (a0 < 0)) == (decide (a1 < 0))) = false := by simpa using c3))
    (try (have c3b3 : ¬ ((decide (a0 < 0)) = (decide (a1 < 0))) := by simpa using c3))
    clear c3
    simp only [Option.some.injEq, Prod.mk.injEq] at H
    obtain ⟨rfl, rfl⟩ := H
    go_enter Tryd.func42, Tryd.ntmps42
    go_wp2
    go_ret2
    exact ⟨by first | rfl | (simp; done) | (simp [*]; done), by repeat (first | exact Drawn0.refl _ | apply Drawn0.step)⟩

/-! ### civil_Date: function 31 -/
def civil_Date.f (a0 : Int) : Option (Int × Int × Int × Int) := (number_Add.f a0 719468).bind fun bt110 => (if bt110.2 = true then ((number_Div.f bt110.1 146097).bind fun bt112 => (if (wrap64 ((wrap64 (Int.tdiv (wrap64 ((wrap64 (5 * (wrap64 (bt112.2.1 - (wrap64 ((wrap64 ((wrap64 (365 * (wrap64 (Int.tdiv (wrap64 ((wrap64 ((wrap64 (bt112.2.1 - (wrap64 (Int.tdiv bt112.2.1 1460)))) + (wrap64 (Int.tdiv bt112.2.1 36524)))) - (wrap64 (Int.tdiv bt112.2.1 146096)))) 365)))) + (wrap64 (Int.tdiv (wrap64 (Int.tdiv (wrap64 ((wrap64 ((wrap64 (bt112.2.1 - (wrap64 (Int.tdiv bt112.2.1 1460)))) + (wrap64 (Int.tdiv bt112.2.1 36524)))) - (wrap64 (Int.tdiv bt112.2.1 146096)))) 365)) 4)))) - (wrap64 (Int.tdiv (wrap64 (Int.tdiv (wrap64 ((wrap64 ((wrap64 (bt112.2.1 - (wrap64 (Int.tdiv bt112.2.1 1460)))) + (wrap64 (Int.tdiv bt112.2.1 36524)))) - (wrap64 (Int.tdiv bt112.2.1 146096)))) 365)) 100)))))))) + 2)) 153)) + 3)) > 12 then ((civil_may.f (wrap64 ((wrap64 ((wrap64 (Int.tdiv (wrap64 ((wrap64 ((wrap64 (bt112.2.1 - (wrap64 (Int.tdiv bt112.2.1 1460)))) + (wrap64 (Int.tdiv bt112.2.1 36524)))) - (wrap64 (Int.tdiv bt112.2.1 146096)))) 365)) + (wrap64 (400 * bt112.1)))) + 1))).bind fun t115 => (if t115 = true then (some (wrap64 ((wrap64 ((wrap64 (Int.tdiv (wrap64 ((wrap64 ((wrap64 (bt112.2.1 - (wrap64 (Int.tdiv bt112.2.1 1460)))) + (wrap64 (Int.tdiv bt112.2.1 36524)))) - (wrap64 (Int.tdiv bt112.2.1 146096)))) 365)) + (wrap64 (400 * bt112.1)))) + 1), wrap64 ((wrap64 ((wrap64 (Int.tdiv (wrap64 ((wrap64 (5 * (wrap64 (bt112.2.1 - (wrap64 ((wrap64 ((wrap64 (365 * (wrap64 (Int.tdiv (wrap64 ((wrap64 ((wrap64 (bt112.2.1 - (wrap64 (Int.tdiv bt112.2.1 1460)))) + (wrap64 (Int.tdiv bt112.2.1 36524)))) - (wrap64 (Int.tdiv bt112.2.1 146096)))) 365)))) + (wrap64 (Int.tdiv (wrap64 (Int.tdiv (wrap64 ((wrap64 ((wrap64 (bt112.2.1 - (wrap64 (Int.tdiv bt112.2.1 1460)))) + (wrap64 (Int.tdiv bt112.2.1 36524)))) - (wrap64 (Int.tdiv bt112.2.1 146096)))) 365)) 4)))) - (wrap64 (Int.tdiv (wrap64 (Int.tdiv (wrap64 ((wrap64 ((wrap64 (bt112.2.1 - (wrap64 (Int.tdiv bt112.2.1 1460)))) + (wrap64 (Int.tdiv bt112.2.1 36524)))) - (wrap64 (Int.tdiv bt112.2.1 146096)))) 365)) 100)))))))) + 2)) 153)) + 3)) - 12), wrap64 ((wrap64 ((wrap64 (bt112.2.1 - (wrap64 ((wrap64 ((wrap64 (365 * (wrap64 (Int.tdiv (wrap64 ((wrap64 ((wrap64 (bt112.2.1 - (wrap64 (Int.tdiv bt112.2.1 1460)))) + (wrap64 (Int.tdiv bt112.2.1 36524)))) - (wrap64 (Int.tdiv bt112.2.1 146096)))) 365)))) + (wrap64 (Int.tdiv (wrap64 (Int.tdiv (wrap64 ((wrap64 ((wrap64 (bt112.2.1 - (wrap64 (Int.tdiv bt112.2.1 1460)))) + (wrap64 (Int.tdiv bt112.2.1 36524)))) - (wrap64 (Int.tdiv bt112.2.1 146096)))) 365)) 4)))) - (wrap64 (Int.tdiv (wrap64 (Int.tdiv (wrap64 ((wrap64 ((wrap64 (bt112.2.1 - (wrap64 (Int.tdiv bt112.2.1 1460)))) + (wrap64 (Int.tdiv bt112.2.1 36524)))) - (wrap64 (Int.tdiv bt112.2.1 146096)))) 365)) 100)))))) - (wrap64 (Int.tdiv (wrap64 ((wrap64 (153 * (wrap64 (Int.tdiv (wrap64 ((wrap64 (5 * (wrap64 (bt112.2.1 - (wrap64 ((wrap64 ((wrap64 (365 * (wrap64 (Int.tdiv (wrap64 ((wrap64 ((wrap64 (bt112.2.1 - (wrap64 (Int.tdiv bt112.2.1 1460)))) + (wrap64 (Int.tdiv bt112.2.1 36524)))) - (wrap64 (Int.tdiv bt112.2.1 146096)))) 365)))) + (wrap64 (Int.tdiv (wrap64 (Int.tdiv (wrap64 ((wrap64 ((wrap64 (bt112.2.1 - (wrap64 (Int.tdiv bt112.2.1 1460)))) + (wrap64 (Int.tdiv bt112.2.1 36524)))) - (wrap64 (Int.tdiv bt112.2.1 146096)))) 365)) 4)))) - (wrap64 (Int.tdiv (wrap64 (Int.tdiv (wrap64 ((wrap64 ((wrap64 (bt112.2.1 - (wrap64 (Int.tdiv bt112.2.1 1460)))) + (wrap64 (Int.tdiv bt112.2.1 36524)))) - (wrap64 (Int.tdiv bt112.2.1 146096)))) 365)) 100)))))))) + 2)) 153)))) + 2)) 5)))) + 1), 0)) else (some (0, 0, 0, 2)))) else ((civil_may.f (wrap64 ((wrap64 (Int.tdiv (wrap64 ((wrap64 ((wrap64 (bt112.2.1 - (wrap64 (Int.tdiv bt112.2.1 1460)))) + (wrap64 (Int.tdiv bt112.2.1 36524)))) - (wrap64 (Int.tdiv bt112.2.1 146096)))) 365)) + (wrap64 (400 * bt112.1))))).bind fun t116 => (if t116 = true then (some (wrap64 ((wrap64 (Int.tdiv (wrap64 ((wrap64 ((wrap64 (bt112.2.1 - (wrap64 (Int.tdiv bt112.2.1 1460)))) + (wrap64 (Int.tdiv bt112.2.1 36524)))) - (wrap64 (Int.tdiv bt112.2.1 146096)))) 365)) + (wrap64 (400 * bt112.1))), wrap64 ((wrap64 (Int.tdiv (wrap64 ((wrap64 (5 * (wrap64 (bt112.2.1 - (wrap64 ((wrap64 ((wrap64 (365 * (wrap64 (Int.tdiv (wrap64 ((wrap64 ((wrap64 (bt112.2.1 - (wrap64 (Int.tdiv bt112.2.1 1460)))) + (wrap64 (Int.tdiv bt112.2.1 36524)))) - (wrap64 (Int.tdiv bt112.2.1 146096)))) 365)))) + (wrap64 (Int.tdiv (wrap64 (Int.tdiv (wrap64 ((wrap64 ((wrap64 (bt112.2.1 - (wrap64 (Int.tdiv bt112.2.1 1460)))) + (wrap64 (Int.tdiv bt112.2.1 36524)))) - (wrap64 (Int.tdiv bt112.2.1 146096)))) 365)) 4)))) - (wrap64 (Int.tdiv (wrap64 (Int.tdiv (wrap64 ((wrap64 ((wrap64 (bt112.2.1 - (wrap64 (Int.tdiv bt112.2.1 1460)))) + (wrap64 (Int.tdiv bt112.2.1 36524)))) - (wrap64 (Int.tdiv bt112.2.1 146096)))) 365)) 100)))))))) + 2)) 153)) + 3), wrap64 ((wrap64 ((wrap64 (bt112.2.1 - (wrap64 ((wrap64 ((wrap64 (365 * (wrap64 (Int.tdiv (wrap64 ((wrap64 ((wrap64 (bt112.2.1 - (wrap64 (Int.tdiv bt112.2.1 1460)))) + (wrap64 (Int.tdiv bt112.2.1 36524)))) - (wrap64 (Int.tdiv bt112.2.1 146096)))) 365)))) + (wrap64 (Int.tdiv (wrap64 (Int.tdiv (wrap64 ((wrap64 ((wrap64 (bt112.2.1 - (wrap64 (Int.tdiv bt112.2.1 1460)))) + (wrap64 (Int.tdiv bt112.2.1 36524)))) - (wrap64 (Int.tdiv bt112.2.1 146096)))) 365)) 4)))) - (wrap64 (Int.tdiv (wrap64 (Int.tdiv (wrap64 ((wrap64 ((wrap64 (bt112.2.1 - (wrap64 (Int.tdiv bt112.2.1 1460)))) + (wrap64 (Int.tdiv bt112.2.1 36524)))) - (wrap64 (Int.tdiv bt112.2.1 146096)))) 365)) 100)))))) - (wrap64 (Int.tdiv (wrap64 ((wrap64 (153 * (wrap64 (Int.tdiv (wrap64 ((wrap64 (5 * (wrap64 (bt112.2.1 - (wrap64 ((wrap64 ((wrap64 (365 * (wrap64 (Int.tdiv (wrap64 ((wrap64 ((wrap64 (bt112.2.1 - (wrap64 (Int.tdiv bt112.2.1 1460)))) + (wrap64 (Int.tdiv bt112.2.1 36524)))) - (wrap64 (Int.tdiv bt112.2.1 146096)))) 365)))) + (wrap64 (Int.tdiv (wrap64 (Int.tdiv (wrap64 ((wrap64 ((wrap64 (bt112.2.1 - (wrap64 (Int.tdiv bt112.2.1 1460)))) + (wrap64 (Int.tdiv bt112.2.1 36524)))) - (wrap64 (Int.tdiv bt112.2.1 146096)))) 365)) 4)))) - (wrap64 (Int.tdiv (wrap64 (Int.tdiv (wrap64 ((wrap64 ((wrap64 (bt112.2.1 - (wrap64 (Int.tdiv bt112.2.1 1460)))) + (wrap64 (Int.tdiv bt112.2.1 36524)))) - (wrap64 (Int.tdiv bt112.2.1 146096)))) 365)) 100)))))))) + 2)) 153)))) + 2)) 5)))) + 1), 0)) else (some (0, 0, 0, 2)))))) else (some (0, 0, 0, 2)))
set_option maxHeartbeats 8000000 in
set_option maxRecDepth 100000 in
theorem civil_Date.calls (a0 : Int) (r1 : Int) (r2 : Int) (r3 : Int) (r4 : Int) (w : World) (h : civil_Date.f a0 = some (r1, r2, r3, r4)) : Glob w →
    Calls Tryd.prog 31 #[.int .i64 a0] w fun e w' => e = .returned (.tuple #[.int .i64 r1, .int .i64 r2, .int .i64 r3, .int .i64 r4]) ∧ Drawn0 w w' := by
  intro hG
  have H : ((number_Add.f a0 719468).bind fun bt110 => (if bt110.2 = true then ((number_Div.f bt110.1 146097).bind fun bt112 => (if (wrap64 ((wrap64 (Int.tdiv (wrap64 ((wrap64 (5 * (wrap64 (bt112.2.1 - (wrap64 ((wrap64 ((wrap64 (365 * (wrap64 (Int.tdiv (wrap64 ((wrap64 ((wrap64 (bt112.2.1 - (wrap64 (Int.tdiv bt112.2.1 1460)))) + (wrap64 (Int.tdiv bt112.2.1 36524)))) - (wrap64 (Int.tdiv bt112.2.1 146096)))) 365)))) + (wrap64 (Int.tdiv (wrap64 (Int.tdiv (wrap64 ((wrap64 ((wrap64 (bt112.2.1 - (wrap64 (Int.tdiv bt112.2.1 1460)))) + (wrap64 (Int.tdiv bt112.2.1 36524)))) - (wrap64 (Int.tdiv bt112.2.1 146096)))) 365)) 4)))) - (wrap64 (Int.tdiv (wrap64 (Int.tdiv (wrap64 ((wrap64 ((wrap64 (bt112.2.1 - (wrap64 (Int.tdiv bt112.2.1 1460)))) + (wrap64 (Int.tdiv bt112.2.1 36524)))) - (wrap64 (Int.tdiv bt112.2.1 146096)))) 365)) 100)))))))) + 2)) 153)) + 3)) > 12 then ((civil_may.f (wrap64 ((wrap64 ((wrap64 (Int.tdiv (wrap64 ((wrap64 ((wrap64 (bt112.2.1 - (wrap64 (Int.tdiv bt112.2.1 1460)))) + (wrap64 (Int.tdiv bt112.2.1 36524)))) - (wrap64 (Int.tdiv bt112.2.1 146096)))) 365)) + (wrap64 (400 * bt112.1)))) + 1))).bind fun t115 => (if t115 = true then (some (wrap64 ((wrap64 ((wrap64 (Int.tdiv (wrap64 ((wrap64 ((wrap64 (bt112.2.1 - (wrap64 (Int.tdiv bt112.2.1 1460)))) + (wrap64 (Int.tdiv bt112.2.1 36524)))) - (wrap64 (Int.tdiv bt112.2.1 146096)))) 365)) + (wrap64 (400 * bt112.1)))) + 1), wrap64 ((wrap64 ((wrap64 (Int.tdiv (wrap64 ((wrap64 (5 * (wrap64 (bt112.2.1 - (wrap64 ((wrap64 ((wrap64 (365 * (wrap64 (Int.tdiv (wrap64 ((wrap64 ((wrap64 (bt112.2.1 - (wrap64 (Int.tdiv bt112.2.1 1460)))) + (wrap64 (Int.tdiv bt112.2.1 36524)))) - (wrap64 (Int.tdiv bt112.2.1 146096)))) 365)))) + (wrap64 (Int.tdiv (wrap64 (Int.tdiv (wrap64 ((wrap64 ((wrap64 (bt112.2.1 - (wrap64 (Int.tdiv bt112.2.1 1460)))) + (wrap64 (Int.tdiv bt112.2.1 36524)))) - (wrap64 (Int.tdiv bt112.2.1 146096)))) 365)) 4)))) - (wrap64 (Int.tdiv (wrap64 (Int.tdiv (wrap64 ((wrap64 ((wrap64 (bt112.2.1 - (wrap64 (Int.tdiv bt112.2.1 1460)))) + (wrap64 (Int.tdiv bt112.2.1 36524)))) - (wrap64 (Int.tdiv bt112.2.1 146096)))) 365)) 100)))))))) + 2)) 153)) + 3)) - 12), wrap64 ((wrap64 ((wrap64 (bt112.2.1 - (wrap64 ((wrap64 ((wrap64 (365 * (wrap64 (Int.tdiv (wrap64 ((wrap64 ((wrap64 (bt112.2.1 - (wrap64 (Int.tdiv bt112.2.1 1460)))) + (wrap64 (Int.tdiv bt112.2.1 36524)))) - (wrap64 (Int.tdiv bt112.2.1 146096)))) 365)))) + (wrap64 (Int.tdiv (wrap64 (Int.tdiv (wrap64 ((wrap64 ((wrap64 (bt112.2.1 - (wrap64 (Int.tdiv bt112.2.1 1460)))) + (wrap64 (Int.tdiv bt112.2.1 36524)))) - (wrap64 (Int.tdiv bt112.2.1 146096)))) 365)) 4)))) - (wrap64 (Int.tdiv (wrap64 (Int.tdiv (wrap64 ((wrap64 ((wrap64 (bt112.2.1 - (wrap64 (Int.tdiv bt112.2.1 1460)))) + (wrap64 (Int.tdiv bt112.2.1 36524)))) - (wrap64 (Int.tdiv bt112.2.1 146096)))) 365)) 100)))))) - (wrap64 (Int.tdiv (wrap64 ((wrap64 (153 * (wrap64 (Int.tdiv (wrap64 ((wrap64 (5 * (wrap64 (bt112.2.1 - (wrap64 ((wrap64 ((wrap64 (365 * (wrap64 (Int.tdiv (wrap64 ((wrap64 ((wrap64 (bt112.2.1 - (wrap64 (Int.tdiv bt112.2.1 1460)))) + (wrap64 (Int.tdiv bt112.2.1 36524)))) - (wrap64 (Int.tdiv bt112.2.1 146096)))) 365)))) + (wrap64 (Int.tdiv (wrap64 (Int.tdiv (wrap64 ((wrap64 ((wrap64 (bt112.2.1 - (wrap64 (Int.tdiv bt112.2.1 1460)))) + (wrap64 (Int.tdiv bt112.2.1 36524)))) - (wrap64 (Int.tdiv bt112.2.1 146096)))) 365)) 4)))) - (wrap64 (Int.tdiv (wrap64 (Int.tdiv (wrap64 ((wrap64 ((wrap64 (bt112.2.1 - (wrap64 (Int.tdiv bt112.2.1 1460)))) + (wrap64 (Int.tdiv bt112.2.1 36524)))) - (wrap64 (Int.tdiv bt112.2.1 146096)))) 365)) 100)))))))) + 2)) 153)))) + 2)) 5)))) + 1), 0)) else (some (0, 0, 0, 2)))) else ((civil_may.f (wrap64 ((wrap64 (Int.tdiv (wrap64 ((wrap64 ((wrap64 (bt112.2.1 - (wrap64 (Int.tdiv bt112.2.1 1460)))) + (wrap64 (Int.tdiv bt112.2.1 36524)))) - (wrap64 (Int.tdiv bt112.2.1 146096)))) 365)) + (wrap64 (400 * bt112.1))))).bind fun t116 => (if t116 = true then (some (wrap64 ((wrap64 (Int.tdiv (wrap64 ((wrap64 ((wrap64 (bt112.2.1 - (wrap64 (Int.tdiv bt112.2.1 1460)))) + (wrap64 (Int.tdiv bt112.2.1 36524)))) - (wrap64 (Int.tdiv bt112.2.1 146096)))) 365)) + (wrap64 (400 * bt112.1))), wrap64 ((wrap64 (Int.tdiv (wrap64 ((wrap64 (5 * (wrap64 (bt112.2.1 - (wrap64 ((wrap64 ((wrap64 (365 * (wrap64 (Int.tdiv (wrap64 ((wrap64 ((wrap64 (bt112.2.1 - (wrap64 (Int.tdiv bt112.2.1 1460)))) + (wrap64 (Int.tdiv bt112.2.1 36524)))) - (wrap64 (Int.tdiv bt112.2.1 146096)))) 365)))) + (wrap64 (Int.tdiv (wrap64 (Int.tdiv (wrap64 ((wrap64 ((wrap64 (bt112.2.1 - (wrap64 (Int.tdiv bt112.2.1 1460)))) + (wrap64 (Int.tdiv bt112.2.1 36524)))) - (wrap64 (Int.tdiv bt112.2.1 146096)))) 365)) 4)))) - (wrap64 (Int.tdiv (wrap64 (Int.tdiv (wrap64 ((wrap64 ((wrap64 (bt112.2.1 - (wrap64 (Int.tdiv bt112.2.1 1460)))) + (wrap64 (Int.tdiv bt112.2.1 36524)))) - (wrap64 (Int.tdiv bt112.2.1 146096)))) 365)) 100)))))))) + 2)) 153)) + 3), wrap64 ((wrap64 ((wrap64 (bt112.2.1 - (wrap64 ((wrap64 ((wrap64 (365 * (wrap64 (Int.tdiv (wrap64 ((wrap64 ((wrap64 (bt112.2.1 - (wrap64 (Int.tdiv bt112.2.1 1460)))) + (wrap64 (Int.tdiv bt112.2.1 36524)))) - (wrap64 (Int.tdiv bt112.2.1 146096)))) 365)))) + (wrap64 (Int.tdiv (wrap64 (Int.tdiv (wrap64 ((wrap64 ((wrap64 (bt112.2.1 - (wrap64 (Int.tdiv bt112.2.1 1460)))) + (wrap64 (Int.tdiv bt112.2.1 36524)))) - (wrap64 (Int.tdiv bt112.2.1 146096)))) 365)) 4)))) - (wrap64 (Int.tdiv (wrap64 (Int.tdiv (wrap64 ((wrap64 ((wrap64 (bt112.2.1 - (wrap64 (Int.tdiv bt112.2.1 1460)))) + (wrap64 (Int.tdiv bt112.2.1 36524)))) - (wrap64 (Int.tdiv bt112.2.1 146096)))) 365)) 100)))))) - (wrap64 (Int.tdiv (wrap64 ((wrap64 (153 * (wrap64 (Int.tdiv (wrap64 ((wrap64 (5 * (wrap64 (bt112.2.1 - (wrap64 ((wrap64 ((wrap64 (365 * (wrap64 (Int.tdiv (wrap64 ((wrap64 ((wrap64 (bt112.2.1 - (wrap64 (Int.tdiv bt112.2.1 1460)))) + (wrap64 (Int.tdiv bt112.2.1 36524)))) - (wrap64 (Int.tdiv bt112.2.1 146096)))) 365)))) + (wrap64 (Int.tdiv (wrap64 (Int.tdiv (wrap64 ((wrap64 ((wrap64 (bt112.2.1 - (wrap64 (Int.tdiv bt112.2.1 1460)))) + (wrap64 (Int.tdiv bt112.2.1 36524)))) - (wrap64 (Int.tdiv bt112.2.1 146096)))) 365)) 4)))) - (wrap64 (Int.tdiv (wrap64 (Int.tdiv (wrap64 ((wrap64 ((wrap64 (bt112.2.1 - (wrap64 (Int.tdiv bt112.2.1 1460)))) + (wrap64 (Int.tdiv bt112.2.1 36524)))) - (wrap64 (Int.tdiv bt112.2.1 146096)))) 365)) 100)))))))) + 2)) 153)))) + 2)) 5)))) + 1), 0)) else (some (0, 0, 0, 2)))))) else (some (0, 0, 0, 2)))) = some (r1, r2, r3, r4) := h
  clear h
  replace H := Option.bind_eq_some_iff.mp H
  obtain ⟨⟨t110, t111⟩, A20, H⟩ := H
  replace H : (if t111 = true then ((number_Div.f t110 146097).bind fun bt112 => (if (wrap64 ((wrap64 (Int.tdiv (wrap64 ((wrap64 (5 * (wrap64 (bt112.2.1 - (wrap64 ((wrap64 ((wrap64 (365 * (wrap64 (Int.tdiv (wrap64 ((wrap64 ((wrap64 (bt112.2.1 - (wrap64 (Int.tdiv bt112.2.1 1460)))) + (wrap64 (Int.tdiv bt112.2.1 36524)))) - (wrap64 (Int.tdiv bt112.2.1 146096)))) 365)))) + (wrap64 (Int.tdiv (wrap64 (Int.tdiv (wrap64 ((wrap64 ((wrap64 (bt112.2.1 - (wrap64 (Int.tdiv bt112.2.1 1460)))) + (wrap64 (Int.tdiv bt112.2.1 36524)))) - (wrap64 (Int.tdiv bt112.2.1 146096)))) 365)) 4)))) - (wrap64 (Int.tdiv (wrap64 (Int.tdiv (wrap64 ((wrap64 ((wrap64 (bt112.2.1 - (wrap64 (Int.tdiv bt112.2.1 1460)))) + (wrap64 (Int.tdiv bt112.2.1 36524)))) - (wrap64 (Int.tdiv bt112.2.1 146096)))) 365)) 100)))))))) + 2)) 153)) + 3)) > 12 then ((civil_may.f (wrap64 ((wrap64 ((wrap64 (Int.tdiv (wrap64 ((wrap64 ((wrap64 (bt112.2.1 - (wrap64 (Int.tdiv bt112.2.1 1460)))) + (wrap64 (Int.tdiv bt112.2.1 36524)))) - (wrap64 (Int.tdiv bt112.2.1 146096)))) 365)) + (wrap64 (400 * bt112.1)))) + 1))).bind fun t115 => (if t115 = true then (some (wrap64 ((wrap64 ((wrap64 (Int.tdiv (wrap64 ((wrap64 ((wrap64 (bt112.2.1 - (wrap64 (Int.tdiv bt112.2.1 1460)))) + (wrap64 (Int.tdiv bt112.2.1 36524)))) - (wrap64 (Int.tdiv bt112.2.1 146096)))) 365)) + (wrap64 (400 * bt112.1)))) + 1), wrap64 ((wrap64 ((wrap64 (Int.tdiv (wrap64 ((wrap64 (5 * (wrap64 (bt112.2.1 - (wrap64 ((wrap64 ((wrap64 (365 * (wrap64 (Int.tdiv (wrap64 ((wrap64 ((wrap64 (bt112.2.1 - (wrap64 (Int.tdiv bt112.2.1 1460)))) + (wrap64 (Int.tdiv bt112.2.1 36524)))) - (wrap64 (Int.tdiv bt112.2.1 146096)))) 365)))) + (wrap64 (Int.tdiv (wrap64 (Int.tdiv (wrap64 ((wrap64 ((wrap64 (bt112.2.1 - (wrap64 (Int.tdiv bt112.2.1 1460)))) + (wrap64 (Int.tdiv bt112.2.1 36524)))) - (wrap64 (Int.tdiv bt112.2.1 146096)))) 365)) 4)))) - (wrap64 (Int.tdiv (wrap64 (Int.tdiv (wrap64 ((wrap64 ((wrap64 (bt112.2.1 - (wrap64 (Int.tdiv bt112.2.1 1460)))) + (wrap64 (Int.tdiv bt112.2.1 36524)))) - (wrap64 (Int.tdiv bt112.2.1 146096)))) 365)) 100)))))))) + 2)) 153)) + 3)) - 12), wrap64 ((wrap64 ((wrap64 (bt112.2.1 - (wrap64 ((wrap64 ((wrap64 (365 * (wrap64 (Int.tdiv (wrap64 ((wrap64 ((wrap64 (bt112.2.1 - (wrap64 (Int.tdiv bt112.2.1 1460)))) + (wrap64 (Int.tdiv bt112.2.1 36524)))) - (wrap64 (Int.tdiv bt112.2.1 146096)))) 365)))) + (wrap64 (Int.tdiv (wrap64 (Int.tdiv (wrap64 ((wrap64 ((wrap64 (bt112.2.1 - (wrap64 (Int.tdiv bt112.2.1 1460)))) + (wrap64 (Int.tdiv bt112.2.1 36524)))) - (wrap64 (Int.tdiv bt112.2.1 146096)))) 365)) 4)))) - (wrap64 (Int.tdiv (wrap64 (Int.tdiv (wrap64 ((wrap64 ((wrap64 (bt112.2.1 - (wrap64 (Int.tdiv bt112.2.1 1460)))) + (wrap64 (Int.tdiv bt112.2.1 36524)))) - (wrap64 (Int.tdiv bt112.2.1 146096)))) 365)) 100)))))) - (wrap64 (Int.tdiv (wrap64 ((wrap64 (153 * (wrap64 (Int.tdiv (wrap64 ((wrap64 (5 * (wrap64 (bt112.2.1 - (wrap64 ((wrap64 ((wrap64 (365 * (wrap64 (Int.tdiv (wrap64 ((wrap64 ((wrap64 (bt112.2.1 - (wrap64 (Int.tdiv bt112.2.1 1460)))) + (wrap64 (Int.tdiv bt112.2.1 36524)))) - (wrap64 (Int.tdiv bt112.2.1 146096)))) 365)))) + (wrap64 (Int.tdiv (wrap64 (Int.tdiv (wrap64 ((wrap64 ((wrap64 (bt112.2.1 - (wrap64 (Int.tdiv bt112.2.1 1460)))) + (wrap64 (Int.tdiv bt112.2.1 36524)))) - (wrap64 (Int.tdiv bt112.2.1 146096)))) 365)) 4)))) - (wrap64 (Int.tdiv (wrap64 (Int.tdiv (wrap64 ((wrap64 ((wrap64 (bt112.2.1 - (wrap64 (Int.tdiv bt112.2.1 1460)))) + (wrap64 (Int.tdiv bt112.2.1 36524)))) - (wrap64 (Int.tdiv bt112.2.1 146096)))) 365)) 100)))))))) + 2)) 153)))) + 2)) 5)))) + 1), 0)) else (some (0, 0, 0, 2)))) else ((civil_may.f (wrap64 ((wrap64 (Int.tdiv (wrap64 ((wrap64 ((wrap64 (bt112.2.1 - (wrap64 (Int.tdiv bt112.2.1 1460)))) + (wrap64 (Int.tdiv bt112.2.1 36524)))) - (wrap64 (Int.tdiv bt112.2.1 146096)))) 365)) + (wrap64 (400 * bt112.1))))).bind fun t116 => (if t116 = true then (some (wrap64 ((wrap64 (Int.tdiv (wrap64 ((wrap64 ((wrap64 (bt112.2.1 - (wrap64 (Int.tdiv bt112.2.1 1460)))) + (wrap64 (Int.tdiv bt112.2.1 36524)))) - (wrap64 (Int.tdiv bt112.2.1 146096)))) 365)) + (wrap64 (400 * bt112.1))), wrap64 ((wrap64 (Int.tdiv (wrap64 ((wrap64 (5 * (wrap64 (bt112.2.1 - (wrap64 ((wrap64 ((wrap64 (365 * (wrap64 (Int.tdiv (wrap64 ((wrap64 ((wrap64 (bt112.2.1 - (wrap64 (Int.tdiv bt112.2.1 1460)))) + (wrap64 (Int.tdiv bt112.2.1 36524)))) - (wrap64 (Int.tdiv bt112.2.1 146096)))) 365)))) + (wrap64 (Int.tdiv (wrap64 (Int.tdiv (wrap64 ((wrap64 ((wrap64 (bt112.2.1 - (wrap64 (Int.tdiv bt112.2.1 1460)))) + (wrap64 (Int.tdiv bt112.2.1 36524)))) - (wrap64 (Int.tdiv bt112.2.1 146096)))) 365)) 4)))) - (wrap64 (Int.tdiv (wrap64 (Int.tdiv (wrap64 ((wrap64 ((wrap64 (bt112.2.1 - (wrap64 (Int.tdiv bt112.2.1 1460)))) + (wrap64 (Int.tdiv bt112.2.1 36524)))) - (wrap64 (Int.tdiv bt112.2.1 146096)))) 365)) 100)))))))) + 2)) 153)) + 3), wrap64 ((wrap64 ((wrap64 (bt112.2.1 - (wrap64 ((wrap64 ((wrap64 (365 * (wrap64 (Int.tdiv (wrap64 ((wrap64 ((wrap64 (bt112.2.1 - (wrap64 (Int.tdiv bt112.2.1 1460)))) + (wrap64 (Int.tdiv bt112.2.1 36524)))) - (wrap64 (Int.tdiv bt112.2.1 146096)))) 365)))) + (wrap64 (Int.tdiv (wrap64 (Int.tdiv (wrap64 ((wrap64 ((wrap64 (bt112.2.1 - (wrap64 (Int.tdiv bt112.2.1 1460)))) + (wrap64 (Int.tdiv bt112.2.1 36524)))) - (wrap64 (Int.tdiv bt112.2.1 146096)))) 365)) 4)))) - (wrap64 (Int.tdiv (wrap64 (Int.tdiv (wrap64 ((wrap64 ((wrap64 (bt112.2.1 - (wrap64 (Int.tdiv bt112.2.1 1460)))) + (wrap64 (Int.tdiv bt112.2.1 36524)))) - (wrap64 (Int.tdiv bt112.2.1 146096)))) 365)) 100)))))) - (wrap64 (Int.tdiv (wrap64 ((wrap64 (153 * (wrap64 (Int.tdiv (wrap64 ((wrap64 (5 * (wrap64 (bt112.2.1 - (wrap64 ((wrap64 ((wrap64 (365 * (wrap64 (Int.tdiv (wrap64 ((wrap64 ((wrap64 (bt112.2.1 - (wrap64 (Int.tdiv bt112.2.1 1460)))) + (wrap64 (Int.tdiv bt112.2.1 36524)))) - (wrap64 (Int.tdiv bt112.2.1 146096)))) 365)))) + (wrap64 (Int.tdiv (wrap64 (Int.tdiv (wrap64 ((wrap64 ((wrap64 (bt112.2.1 - (wrap64 (Int.tdiv bt112.2.1 1460)))) + (wrap64 (Int.tdiv bt112.2.1 36524)))) - (wrap64 (Int.tdiv bt112.2.1 146096)))) 365)) 4)))) - (wrap64 (Int.tdiv (wrap64 (Int.tdiv (wrap64 ((wrap64 ((wrap64 (bt112.2.1 - (wrap64 (Int.tdiv bt112.2.1 1460)))) + (wrap64 (Int.tdiv bt112.2.1 36524)))) - (wrap64 (Int.tdiv bt112.2.1 146096)))) 365)) 100)))))))) + 2)) 153)))) + 2)) 5)))) + 1), 0)) else (some (0, 0, 0, 2)))))) else (some (0, 0, 0, 2))) = some (r1, r2, r3, r4) := H
  have A2 := Aside0.mk A20
  clear A20
  by_cases c3 : t111 = true
  · subst c3
    have H1 : ((number_Div.f t110 146097).bind fun bt112 => (if (wrap64 ((wrap64 (Int.tdiv (wrap64 ((wrap64 (5 * (wrap64 (bt112.2.1 - (wrap64 ((wrap64 ((wrap64 (365 * (wrap64 (Int.tdiv (wrap64 ((wrap64 ((wrap64 (bt112.2.1 - (wrap64 (Int.tdiv bt112.2.1 1460)))) + (wrap64 (Int.tdiv bt112.2.1 36524)))) - (wrap64 (Int.tdiv bt112.2.1 146096)))) 365)))) + (wrap64 (Int.tdiv (wrap64 (Int.tdiv (wrap64 ((wrap64 ((wrap64 (bt112.2.1 - (wrap64 (Int.tdiv bt112.2.1 1460)))) + (wrap64 (Int.tdiv bt112.2.1 36524)))) - (wrap64 (Int.tdiv bt112.2.1 146096)))) 365)) 4)))) - (wrap64 (Int.tdiv (wrap64 (Int.tdiv (wrap64 ((wrap64 ((wrap64 (bt112.2.1 - (wrap64 (Int.tdiv bt112.2.1 1460)))) + (wrap64 (Int.tdiv bt112.2.1 36524)))) - (wrap64 (Int.tdiv bt112.2.1 146096)))) 365)) 100)))))))) + 2)) 153)) + 3)) > 12 then ((civil_may.f (wrap64 ((wrap64 ((wrap64 (Int.tdiv (wrap64 ((wrap64 ((wrap64 (bt112.2.1 - (wrap64 (Int.tdiv bt112.2.1 1460)))) + (wrap64 (Int.tdiv bt112.2.1 36524)))) - (wrap64 (Int.tdiv bt112.2.1 146096)))) 365)) + (wrap64 (400 * bt112.1)))) + 1))).bind fun t115 => (if t115 = true then (some (wrap64 ((wrap64 ((wrap64 (Int.tdiv (wrap64 ((wrap64 ((wrap64 (bt112.2.1 - (wrap64 (Int.tdiv bt112.2.1 1460)))) + (wrap64 (Int.tdiv bt112.2.1 36524)))) - (wrap64 (Int.tdiv bt112.2.1 146096)))) 365)) + (wrap64 (400 * bt112.1)))) + 1), wrap64 ((wrap64 ((wrap64 (Int.tdiv (wrap64 ((wrap64 (5 * (wrap64 (bt112.2.1 - (wrap64 ((wrap64 ((wrap64 (365 * (wrap64 (Int.tdiv (wrap64 ((wrap64 ((wrap64 (bt112.2.1 - (wrap64 (Int.tdiv bt112.2.1 1460)))) + (wrap64 (Int.tdiv bt112.2.1 36524)))) - (wrap64 (Int.tdiv bt112.2.1 146096)))) 365)))) + (wrap64 (Int.tdiv (wrap64 (Int.tdiv (wrap64 ((wrap64 ((wrap64 (bt112.2.1 - (wrap64 (Int.tdiv bt112.2.1 1460)))) + (wrap64 (Int.tdiv bt112.2.1 36524)))) - (wrap64 (Int.tdiv bt112.2.1 146096)))) 365)) 4)))) - (wrap64 (Int.tdiv (wrap64 (Int.tdiv (wrap64 ((wrap64 ((wrap64 (bt112.2.1 - (wrap64 (Int.tdiv bt112.2.1 1460)))) + (wrap64 (Int.tdiv bt112.2.1 36524)))) - (wrap64 (Int.tdiv bt112.2.1 146096)))) 365)) 100)))))))) + 2)) 153)) + 3)) - 12), wrap64 ((wrap64 ((wrap64 (bt112.2.1 - (wrap64 ((wrap64 ((wrap64 (365 * (wrap64 (Int.tdiv (wrap64 ((wrap64 ((wrap64 (bt112.2.1 - (wrap64 (Int.tdiv bt112.2.1 1460)))) + (wrap64 (Int.tdiv bt112.2.1 36524)))) - (wrap64 (Int.tdiv bt112.2.1 146096)))) 365)))) + (wrap64 (Int.tdiv (wrap64 (Int.tdiv (wrap64 ((wrap64 ((wrap64 (bt112.2.1 - (wrap64 (Int.tdiv bt112.2.1 1460)))) + (wrap64 (Int.tdiv bt112.2.1 36524)))) - (wrap64 (Int.tdiv bt112.2.1 146096)))) 365)) 4)))) - (wrap64 (Int.tdiv (wrap64 (Int.tdiv (wrap64 ((wrap64 ((wrap64 (bt112.2.1 - (wrap64 (Int.tdiv bt112.2.1 1460)))) + (wrap64 (Int.tdiv bt112.2.1 36524)))) - (wrap64 (Int.tdiv bt112.2.1 146096)))) 365)) 100)))))) - (wrap64 (Int.tdiv (wrap64 ((wrap64 (153 * (wrap64 (Int.tdiv (wrap64 ((wrap64 (5 * (wrap64 (bt112.2.1 - (wrap64 ((wrap64 ((wrap64 (365 * (wrap64 (Int.tdiv (wrap64 ((wrap64 ((wrap64 (bt112.2.1 - (wrap64 (Int.tdiv bt112.2.1 1460)))) + (wrap64 (Int.tdiv bt112.2.1 36524)))) - (wrap64 (Int.tdiv bt112.2.1 146096)))) 365)))) + (wrap64 (Int.tdiv (wrap64 (Int.tdiv (wrap64 ((wrap64 ((wrap64 (bt112.2.1 - (wrap64 (Int.tdiv bt112.2.1 1460)))) + (wrap64 (Int.tdiv bt112.2.1 36524)))) - (wrap64 (Int.tdiv bt112.2.1 146096)))) 365)) 4)))) - (wrap64 (Int.tdiv (wrap64 (Int.tdiv (wrap64 ((wrap64 ((wrap64 (bt112.2.1 - (wrap64 (Int.tdiv bt112.2.1 1460)))) + (wrap64 (Int.tdiv bt112.2.1 36524)))) - (wrap64 (Int.tdiv bt112.2.1 146096)))) 365)) 100)))))))) + 2)) 153)))) + 2)) 5)))) + 1), 0)) else (some (0, 0, 0, 2)))) else ((civil_may.f (wrap64 ((wrap64 (Int.tdiv (wrap64 ((wrap64 ((wrap64 (bt112.2.1 - (wrap64 (Int.tdiv bt112.2.1 1460)))) + (wrap64 (Int.tdiv bt112.2.1 36524)))) - (wrap64 (Int.tdiv bt112.2.1 146096)))) 365)) + (wrap64 (400 * bt112.1))))).bind fun t116 => (if t116 = true then (some (wrap64 ((wrap64 (Int.tdiv (wrap64 ((wrap64 ((wrap64 (bt112.2.1 - (wrap64 (Int.tdiv bt112.2.1 1460)))) + (wrap64 (Int.tdiv bt112.2.1 36524)))) - (wrap64 (Int.tdiv bt112.2.1 146096)))) 365)) + (wrap64 (400 * bt112.1))), wrap64 ((wrap64 (Int.tdiv (wrap64 ((wrap64 (5 * (wrap64 (bt112.2.1 - (wrap64 ((wrap64 ((wrap64 (365 * (wrap64 (Int.tdiv (wrap64 ((wrap64 ((wrap64 (bt112.2.1 - (wrap64 (Int.tdiv bt112.2.1 1460)))) + (wrap64 (Int.tdiv bt112.2.1 36524)))) - (wrap64 (Int.tdiv bt112.2.1 146096)))) 365)))) + (wrap64 (Int.tdiv (wrap64 (Int.tdiv (wrap64 ((wrap64 ((wrap64 (bt112.2.1 - (wrap64 (Int.tdiv bt112.2.1 1460)))) + (wrap64 (Int.tdiv bt112.2.1 36524)))) - (wrap64 (Int.tdiv bt112.2.1 146096)))) 365)) 4)))) - (wrap64 (Int.tdiv (wrap64 (Int.tdiv (wrap64 ((wrap64 ((wrap64 (bt112.2.1 - (wrap64 (Int.tdiv bt112.2.1 1460)))) + (wrap64 (Int.tdiv bt112.2.1 36524)))) - (wrap64 (Int.tdiv bt112.2.1 146096)))) 365)) 100)))))))) + 2)) 153)) + 3), wrap64 ((wrap64 ((wrap64 (bt112.2.1 - (wrap64 ((wrap64 ((wrap64 (365 * (wrap64 (Int.tdiv (wrap64 ((wrap64 ((wrap64 (bt112.2.1 - (wrap64 (Int.tdiv bt112.2.1 1460)))) + (wrap64 (Int.tdiv bt112.2.1 36524)))) - (wrap64 (Int.tdiv bt112.2.1 146096)))) 365)))) + (wrap64 (Int.tdiv (wrap64 (Int.tdiv (wrap64 ((wrap64 ((wrap64 (bt112.2.1 - (wrap64 (Int.tdiv bt112.2.1 1460)))) + (wrap64 (Int.tdiv bt112.2.1 36524)))) - (wrap64 (Int.tdiv bt112.2.1 146096)))) 365)) 4)))) - (wrap64 (Int.tdiv (wrap64 (Int.tdiv (wrap64 ((wrap64 ((wrap64 (bt112.2.1 - (wrap64 (Int.tdiv bt112.2.1 1460)))) + (wrap64 (Int.tdiv bt112.2.1 36524)))) - (wrap64 (Int.tdiv bt112.2.1 146096)))) 365)) 100)))))) - (wrap64 (Int.tdiv (wrap64 ((wrap64 (153 * (wrap64 (Int.tdiv (wrap64 ((wrap64 (5 * (wrap64 (bt112.2.1 - (wrap64 ((wrap64 ((wrap64 (365 * (wrap64 (Int.tdiv (wrap64 ((wrap64 ((wrap64 (bt112.2.1 - (wrap64 (Int.tdiv bt112.2.1 1460)))) + (wrap64 (Int.tdiv bt112.2.1 36524)))) - (wrap64 (Int.tdiv bt112.2.1 146096)))) 365)))) + (wrap64 (Int.tdiv (wrap64 (Int.tdiv (wrap64 ((wrap64 ((wrap64 (bt112.2.1 - (wrap64 (Int.tdiv bt112.2.1 1460)))) + (wrap64 (Int.tdiv bt112.2.1 36524)))) - (wrap64 (Int.tdiv bt112.2.1 146096)))) 365)) 4)))) - (wrap64 (Int.tdiv (wrap64 (Int.tdiv (wrap64 ((wrap64 ((wrap64 (bt112.2.1 - (wrap64 (Int.tdiv bt112.2.1 1460)))) + (wrap64 (Int.tdiv bt112.2.1 36524)))) - (wrap64 (Int.tdiv bt112.2.1 146096)))) 365)) 100)))))))) + 2)) 153)))) + 2)) 5)))) + 1), 0)) else (some (0, 0, 0, 2)))))) = some (r1, r2, r3, r4) := by rw [if_pos rfl] at H; exact H
    clear H
    have H := H1
    clear H1
    replace H := Option.bind_eq_some_iff.mp H
    obtain ⟨⟨t112, t113, t114⟩, A40, H⟩ := H
    replace H : (if (wrap64 ((wrap64 (Int.tdiv (wrap64 ((wrap64 (5 * (wrap64 (t113 - (wrap64 ((wrap64 ((wrap64 (365 * (wrap64 (Int.tdiv (wrap64 ((wrap64 ((wrap64 (t113 - (wrap64 (Int.tdiv t113 1460)))) + (wrap64 (Int.tdiv t113 36524)))) - (wrap64 (Int.tdiv t113 146096)))) 365)))) + (wrap64 (Int.tdiv (wrap64 (Int.tdiv (wrap64 ((wrap64 ((wrap64 (t113 - (wrap64 (Int.tdiv t113 1460)))) + (wrap64 (Int.tdiv t113 36524)))) - (wrap64 (Int.tdiv t113 146096)))) 365)) 4)))) - (wrap64 (Int.tdiv (wrap64 (Int.tdiv (wrap64 ((wrap64 ((wrap64 (t113 - (wrap64 (Int.tdiv t113 1460)))) + (wrap64 (Int.tdiv t113 36524)))) - (wrap64 (Int.tdiv t113 146096)))) 365)) 100)))))))) + 2)) 153)) + 3)) > 12 then ((civil_may.f (wrap64 ((wrap64 ((wrap64 (Int.tdiv (wrap64 ((wrap64 ((wrap64 (t113 - (wrap64 (Int.tdiv t113 1460)))) + (wrap64 (Int.tdiv t113 36524)))) - (wrap64 (Int.tdiv t113 146096)))) 365)) + (wrap64 (400 * t112)))) + 1))).bind fun t115 => (if t115 = true then (some (wrap64 ((wrap64 ((wrap64 (Int.tdiv (wrap64 ((wrap64 ((wrap64 (t113 - (wrap64 (Int.tdiv t113 1460)))) + (wrap64 (Int.tdiv t113 36524)))) - (wrap64 (Int.tdiv t113 146096)))) 365)) + (wrap64 (400 * t112)))) + 1), wrap64 ((wrap64 ((wrap64 (Int.tdiv (wrap64 ((wrap64 (5 * (wrap64 (t113 - (wrap64 ((wrap64 ((wrap64 (365 * (wrap64 (Int.tdiv (wrap64 ((wrap64 ((wrap64 (t113 - (wrap64 (Int.tdiv t113 1460)))) + (wrap64 (Int.tdiv t113 36524)))) - (wrap64 (Int.tdiv t113 146096)))) 365)))) + (wrap64 (Int.tdiv (wrap64 (Int.tdiv (wrap64 ((wrap64 ((wrap64 (t113 - (wrap64 (Int.tdiv t113 1460)))) + (wrap64 (Int.tdiv t113 36524)))) - (wrap64 (Int.tdiv t113 146096)))) 365)) 4)))) - (wrap64 (Int.tdiv (wrap64 (Int.tdiv (wrap64 ((wrap64 ((wrap64 (t113 - (wrap64 (Int.tdiv t113 1460)))) + (wrap64 (Int.tdiv t113 36524)))) - (wrap64 (Int.tdiv t113 146096)))) 365)) 100)))))))) + 2)) 153)) + 3)) - 12), wrap64 ((wrap64 ((wrap64 (t113 - (wrap64 ((wrap64 ((wrap64 (365 * (wrap64 (Int.tdiv (wrap64 ((wrap64 ((wrap64 (t113 - (wrap64 (Int.tdiv t113 1460)))) + (wrap64 (Int.tdiv t113 36524)))) - (wrap64 (Int.tdiv t113 146096)))) 365)))) + (wrap64 (Int.tdiv (wrap64 (Int.tdiv (wrap64 ((wrap64 ((wrap64 (t113 - (wrap64 (Int.tdiv t113 1460)))) + (wrap64 (Int.tdiv t113 36524)))) - (wrap64 (Int.tdiv t113 146096)))) 365)) 4)))) - (wrap64 (Int.tdiv (wrap64 (Int.tdiv (wrap64 ((wrap64 ((wrap64 (t113 - (wrap64 (Int.tdiv t113 1460)))) + (wrap64 (Int.tdiv t113 36524)))) - (wrap64 (Int.tdiv t113 146096)))) 365)) 100)))))) - (wrap64 (Int.tdiv (wrap64 ((wrap64 (153 * (wrap64 (Int.tdiv (wrap64 ((wrap64 (5 * (wrap64 (t113 - (wrap64 ((wrap64 ((wrap64 (365 * (wrap64 (Int.tdiv (wrap64 ((wrap64 ((wrap64 (t113 - (wrap64 (Int.tdiv t113 1460)))) + (wrap64 (Int.tdiv t113 36524)))) - (wrap64 (Int.tdiv t113 146096)))) 365)))) + (wrap64 (Int.tdiv (wrap64 (Int.tdiv (wrap64 ((wrap64 ((wrap64 (t113 - (wrap64 (Int.tdiv t113 1460)))) + (wrap64 (Int.tdiv t113 36524)))) - (wrap64 (Int.tdiv t113 146096)))) 365)) 4)))) - (wrap64 (Int.tdiv (wrap64 (Int.tdiv (wrap64 ((wrap64 ((wrap64 (t113 - (wrap64 (Int.tdiv t113 1460)))) + (wrap64 (Int.tdiv t113 36524)))) - (wrap64 (Int.tdiv t113 146096)))) 365)) 100)))))))) + 2)) 153)))) + 2)) 5)))) + 1), 0)) else (some (0, 0, 0, 2)))) else ((civil_may.f (wrap64 ((wrap64 (Int.tdiv (wrap64 ((wrap64 ((wrap64 (t113 - (wrap64 (Int.tdiv t113 1460)))) + (wrap64 (Int.tdiv t113 36524)))) - (wrap64 (Int.tdiv t113 146096)))) 365)) + (wrap64 (400 * t112))))).bind fun t116 => (if t116 = true then (some (wrap64 ((wrap64 (Int.tdiv (wrap64 ((wrap64 ((wrap64 (t113 - (wrap64 (Int.tdiv t113 1460)))) + (wrap64 (Int.tdiv t113 36524)))) - (wrap64 (Int.tdiv t113 146096)))) 365)) + (wrap64 (400 * t112))), wrap64 ((wrap64 (Int.tdiv (wrap64 ((wrap64 (5 * (wrap64 (t113 - (wrap64 ((wrap64 ((wrap64 (365 * (wrap64 (Int.tdiv (wrap64 ((wrap64 ((wrap64 (t113 - (wrap64 (Int.tdiv t113 1460)))) + (wrap64 (Int.tdiv t113 36524)))) - (wrap64 (Int.tdiv t113 146096)))) 365)))) + (wrap64 (Int.tdiv (wrap64 (Int.tdiv (wrap64 ((wrap64 ((wrap64 (t113 - (wrap64 (Int.tdiv t113 1460)))) + (wrap64 (Int.tdiv t113 36524)))) - (wrap64 (Int.tdiv t113 146096)))) 365)) 4)))) - (wrap64 (Int.tdiv (wrap64 (Int.tdiv (wrap64 ((wrap64 ((wrap64 (t113 - (wrap64 (Int.tdiv t113 1460)))) + (wrap64 (Int.tdiv t113 36524)))) - (wrap64 (Int.tdiv t113 146096)))) 365)) 100)))))))) + 2)) 153)) + 3), wrap64 ((wrap64 ((wrap64 (t113 - (wrap64 ((wrap64 ((wrap64 (365 * (wrap64 (Int.tdiv (wrap64 ((wrap64 ((wrap64 (t113 - (wrap64 (Int.tdiv t113 1460)))) + (wrap64 (Int.tdiv t113 36524)))) - (wrap64 (Int.tdiv t113 146096)))) 365)))) + (wrap64 (Int.tdiv (wrap64 (Int.tdiv (wrap64 ((wrap64 ((wrap64 (t113 - (wrap64 (Int.tdiv t113 1460)))) + (wrap64 (Int.tdiv t113 36524)))) - (wrap64 (Int.tdiv t113 146096)))) 365)) 4)))) - (wrap64 (Int.tdiv (wrap64 (Int.tdiv (wrap64 ((wrap64 ((wrap64 (t113 - (wrap64 (Int.tdiv t113 1460)))) + (wrap64 (Int.tdiv t113 36524)))) - (wrap64 (Int.tdiv t113 146096)))) 365)) 100)))))) - (wrap64 (Int.tdiv (wrap64 ((wrap64 (153 * (wrap64 (Int.tdiv (wrap64 ((wrap64 (5 * (wrap64 (t113 - (wrap64 ((wrap64 ((wrap64 (365 * (wrap64 (Int.tdiv (wrap64 ((wrap64 ((wrap64 (t113 - (wrap64 (Int.tdiv t113 1460)))) + (wrap64 (Int.tdiv t113 36524)))) - (wrap64 (Int.tdiv t113 146096)))) 365)))) + (wrap64 (Int.tdiv (wrap64 (Int.tdiv (wrap64 ((wrap64 ((wrap64 (t113 - (wrap64 (Int.tdiv t113 1460)))) + (wrap64 (Int.tdiv t113 36524)))) - (wrap64 (Int.tdiv t113 146096)))) 365)) 4)))) - (wrap64 (Int.tdiv (wrap64 (Int.tdiv (wrap64 ((wrap64 ((wrap64 (t113 - (wrap64 (Int.tdiv t113 1460)))) + (wrap64 (Int.tdiv t113 36524)))) - (wrap64 (Int.tdiv t113 146096)))) 365)) 100)))))))) + 2)) 153)))) + 2)) 5)))) + 1), 0)) else (some (0, 0, 0, 2))))) = some (r1, r2, r3, r4) := H
    have A4 := Aside0.mk A40
    clear A40
    by_cases c5 : (wrap64 ((wrap64 (Int.tdiv (wrap64 ((wrap64 (5 * (wrap64 (t113 - (wrap64 ((wrap64 ((wrap64 (365 * (wrap64 (Int.tdiv (wrap64 ((wrap64 ((wrap64 (t113 - (wrap64 (Int.tdiv t113 1460)))) + (wrap64 (Int.tdiv t113 36524)))) - (wrap64 (Int.tdiv t113 146096)))) 365)))) + (wrap64 (Int.tdiv (wrap64 (Int.tdiv (wrap64 ((wrap64 ((wrap64 (t113 - (wrap64 (Int.tdiv t113 1460)))) + (wrap64 (Int.tdiv t113 36524)))) - (wrap64 (Int.tdiv t113 146096)))) 365)) 4)))) - (wrap64 (Int.tdiv (wrap64 (Int.tdiv (wrap64 ((wrap64 ((wrap64 (t113 - (wrap64 (Int.tdiv t113 1460)))) + (wrap64 (Int.tdiv t113 36524)))) - (wrap64 (Int.tdiv t113 146096)))) 365)) 100)))))))) + 2)) 153)) + 3)) > 12
    · rw [if_pos c5] at H
      have c5b0 : decide (12 < (wrap64 ((wrap64 (Int.tdiv (wrap64 ((wrap64 (5 * (wrap64 (t113 - (wrap64 ((wrap64 ((wrap64 (365 * (wrap64 (Int.tdiv (wrap64 ((wrap64 ((wrap64 (t113 - (wrap64 (Int.tdiv t113 1460)))) + (wrap64 (Int.tdiv t113 36524)))) - (wrap64 (Int.tdiv t113 146096)))) 365)))) + (wrap64 (Int.tdiv (wrap64 (Int.tdiv (wrap64 ((wrap64 ((wrap64 (t113 - (wrap64 (Int.tdiv t113 1460)))) + (wrap64 (Int.tdiv t113 36524)))) - (wrap64 (Int.tdiv t113 146096)))) 365)) 4)))) - (wrap64 (Int.tdiv (wrap64 (Int.tdiv (wrap64 ((wrap64 ((wrap64 (t113 - (wrap64 (Int.tdiv t113 1460)))) + (wrap64 (Int.tdiv t113 36524)))) - (wrap64 (Int.tdiv t113 146096)))) 365)) 100)))))))) + 2)) 153)) + 3))) = true := decide_eq_true c5
      clear c5
      replace H := Option.bind_eq_some_iff.mp H
      obtain ⟨t115, A60, H⟩ := H
      replace H : (if t115 = true then (some (wrap64 ((wrap64 ((wrap64 (Int.tdiv (wrap64 ((wrap64 ((wrap64 (t113 - (wrap64 (Int.tdiv t113 1460)))) + (wrap64 (Int.tdiv t113 36524)))) - (wrap64 (Int.tdiv t113 146096)))) 365)) + (wrap64 (400 * t112)))) + 1), wrap64 ((wrap64 ((wrap64 (Int.tdiv (wrap64 ((wrap64 (5 * (wrap64 (t113 - (wrap64 ((wrap64 ((wrap64 (365 * (wrap64 (Int.tdiv (wrap64 ((wrap64 ((wrap64 (t113 - (wrap64 (Int.tdiv t113 1460)))) + (wrap64 (Int.tdiv t113 36524)))) - (wrap64 (Int.tdiv t113 146096)))) 365)))) + (wrap64 (Int.tdiv (wrap64 (Int.tdiv (wrap64 ((wrap64 ((wrap64 (t113 - (wrap64 (Int.tdiv t113 1460)))) + (wrap64 (Int.tdiv t113 36524)))) - (wrap64 (Int.tdiv t113 146096)))) 365)) 4)))) - (wrap64 (Int.tdiv (wrap64 (Int.tdiv (wrap64 ((wrap64 ((wrap64 (t113 - (wrap64 (Int.tdiv t113 1460)))) + (wrap64 (Int.tdiv t113 36524)))) - (wrap64 (Int.tdiv t113 146096)))) 365)) 100)))))))) + 2)) 153)) + 3)) - 12), wrap64 ((wrap64 ((wrap64 (t113 - (wrap64 ((wrap64 ((wrap64 (365 * (wrap64 (Int.tdiv (wrap64 ((wrap64 ((wrap64 (t113 - (wrap64 (Int.tdiv t113 1460)))) + (wrap64 (Int.tdiv t113 36524)))) - (wrap64 (Int.tdiv t113 146096)))) 365)))) + (wrap64 (Int.tdiv (wrap64 (Int.tdiv (wrap64 ((wrap64 ((wrap64 (t113 - (wrap64 (Int.tdiv t113 1460)))) + (wrap64 (Int.tdiv t113 36524)))) - (wrap64 (Int.tdiv t113 146096)))) 365)) 4)))) - (wrap64 (Int.tdiv (wrap64 (Int.tdiv (wrap64 ((wrap64 ((wrap64 (t113 - (wrap64 (Int.tdiv t113 1460)))) + (wrap64 (Int.tdiv t113 36524)))) - (wrap64 (Int.tdiv t113 146096)))) 365)) 100)))))) - (wrap64 (Int.tdiv (wrap64 ((wrap64 (153 * (wrap64 (Int.tdiv (wrap64 ((wrap64 (5 * (wrap64 (t113 - (wrap64 ((wrap64 ((wrap64 (365 * (wrap64 (Int.tdiv (wrap64 ((wrap64 ((wrap64 (t113 - (wrap64 (Int.tdiv t113 1460)))) + (wrap64 (Int.tdiv t113 36524)))) - (wrap64 (Int.tdiv t113 146096)))) 365)))) + (wrap64 (Int.tdiv (wrap64 (Int.tdiv (wrap64 ((wrap64 ((wrap64 (t113 - (wrap64 (Int.tdiv t113 1460)))) + (wrap64 (Int.tdiv t113 36524)))) - (wrap64 (Int.tdiv t113 146096)))) 365)) 4)))) - (wrap64 (Int.tdiv (wrap64 (Int.tdiv (wrap64 ((wrap64 ((wrap64 (t113 - (wrap64 (Int.tdiv t113 1460)))) + (wrap64 (Int.tdiv t113 36524)))) - (wrap64 (Int.tdiv t113 146096)))) 365)) 100)))))))) + 2)) 153)))) + 2)) 5)))) + 1), 0)) else (some (0, 0, 0, 2))) = some (r1, r2, r3, r4) := H
      have A6 := Aside0.mk A60
      clear A60
      by_cases c7 : t115 = true
      · subst c7
        have H1 : (some (wrap64 ((wrap64 ((wrap64 (Int.tdiv (wrap64 ((wrap64 ((wrap64 (t113 - (wrap64 (Int.tdiv t113 1460)))) + (wrap64 (Int.tdiv t113 36524)))) - (wrap64 (Int.tdiv t113 146096)))) 365)) + (wrap64 (400 * t112)))) + 1), wrap64 ((wrap64 ((wrap64 (Int.tdiv (wrap64 ((wrap64 (5 * (wrap64 (t113 - (wrap64 ((wrap64 ((wrap64 (365 * (wrap64 (Int.tdiv (wrap64 ((wrap64 ((wrap64 (t113 - (wrap64 (Int.tdiv t113 1460)))) + (wrap64 (Int.tdiv t113 36524)))) - (wrap64 (Int.tdiv t113 146096)))) 365)))) + (wrap64 (Int.tdiv (wrap64 (Int.tdiv (wrap64 ((wrap64 ((wrap64 (t113 - (wrap64 (Int.tdiv t113 1460)))) + (wrap64 (Int.tdiv t113 36524)))) - (wrap64 (Int.tdiv t113 146096)))) 365)) 4)))) - (wrap64 (Int.tdiv (wrap64 (Int.tdiv (wrap64 ((wrap64 ((wrap64 (t113 - (wrap64 (Int.tdiv t113 1460)))) + (wrap64 (Int.tdiv t113 36524)))) - (wrap64 (Int.tdiv t113 146096)))) 365)) 100)))))))) + 2)) 153)) + 3)) - 12), wrap64 ((wrap64 ((wrap64 (t113 - (wrap64 ((wrap64 ((wrap64 (365 * (wrap64 (Int.tdiv (wrap64 ((wrap64 ((wrap64 (t113 - (wrap64 (Int.tdiv t113 1460)))) + (wrap64 (Int.tdiv t113 36524)))) - (wrap64 (Int.tdiv t113 146096)))) 365)))) + (wrap64 (Int.tdiv (wrap64 (Int.tdiv (wrap64 ((wrap64 ((wrap64 (t113 - (wrap64 (Int.tdiv t113 1460)))) + (wrap64 (Int.tdiv t113 36524)))) - (wrap64 (Int.tdiv t113 146096)))) 365)) 4)))) - (wrap64 (Int.tdiv (wrap64 (Int.tdiv (wrap64 ((wrap64 ((wrap64 (t113 - (wrap64 (Int.tdiv t113 1460)))) + (wrap64 (Int.tdiv t113 36524)))) - (wrap64 (Int.tdiv t113 146096)))) 365)) 100)))))) - (wrap64 (Int.tdiv (wrap64 ((wrap64 (153 * (wrap64 (Int.tdiv (wrap64 ((wrap64 (5 * (wrap64 (t113 - (wrap64 ((wrap64 ((wrap64 (365 * (wrap64 (Int.tdiv (wrap64 ((wrap64 ((wrap64 (t113 - (wrap64 (Int.tdiv t113 1460)))) + (wrap64 (Int.tdiv t113 36524)))) - (wrap64 (Int.tdiv t113 146096)))) 365)))) + (wrap64 (Int.tdiv (wrap64 (Int.tdiv (wrap64 ((wrap64 ((wrap64 (t113 - (wrap64 (Int.tdiv t113 1460)))) + (wrap64 (Int.tdiv t113 36524)))) - (wrap64 (Int.tdiv t113 146096)))) 365)) 4)))) - (wrap64 (Int.tdiv (wrap64 (Int.tdiv (wrap64 ((wrap64 ((wrap64 (t113 - (wrap64 (Int.tdiv t113 1460)))) + (wrap64 (Int.tdiv t113 36524)))) - (wrap64 (Int.tdiv t113 146096)))) 365)) 100)))))))) + 2)) 153)))) + 2)) 5)))) + 1), 0)) = some (r1, r2, r3, r4) := by rw [if_pos rfl] at H; exact H
        clear H
        have H := H1
        clear H1
        simp only [Option.some.injEq, Prod.mk.injEq] at H
        obtain ⟨rfl, rfl, rfl, rfl⟩ := H
        go_enter Tryd.func31, Tryd.ntmps31
        go_wp2_with (first | ((with_reducible refine gate_callee (f := 42) rfl ?_); refine goesL_ (some 15) rfl rfl Tryd.func42 (by kernel_rfl) rfl #[.int .i64 a0, .int .i64 719468] rfl (by (try simp only [List.map_toArray, List.map_cons, List.map_nil]); first | done | rfl | (simp only [List.length_drop, List.length_take]; rfl)) ?_; (with_reducible refine (number_Add.calls a0 719468 t110 true _ A2.out (by first | exact hG | exact hG.drewN _ | exact (hG.drewN _).drewN _ | exact hG.below HB.out | exact hG.below (by repeat (first | (with_reducible first | exact HB.out | apply below_alloc | apply pw_below_drewN | apply below_drew1 | refine below_set ?_ (Aside0.out (by assumption))) | exact HB.out)))).mono ?_); rintro e w' ⟨rfl, ⟨nd, rfl⟩⟩; refine ⟨_, rfl, ?_⟩) | ((with_reducible refine gate_callee (f := 30) rfl ?_); refine goesL_ (some 22) rfl rfl Tryd.func30 (by kernel_rfl) rfl #[.int .i64 t110, .int .i64 146097] rfl (by (try simp only [List.map_toArray, List.map_cons, List.map_nil]); first | done | rfl | (simp only [List.length_drop, List.length_take]; rfl)) ?_; (with_reducible refine (number_Div.calls t110 146097 t112 t113 t114 _ A4.out (by first | exact hG | exact hG.drewN _ | exact (hG.drewN _).drewN _ | exact hG.below HB.out | exact hG.below (by repeat (first | (with_reducible first | exact HB.out | apply below_alloc | apply pw_below_drewN | apply below_drew1 | refine below_set ?_ (Aside0.out (by assumption))) | exact HB.out)))).mono ?_); rintro e w' ⟨rfl, ⟨nd, rfl⟩⟩; refine ⟨_, rfl, ?_⟩) | ((with_reducible refine gate_callee (f := 38) rfl ?_); refine goesL_ (some 71) rfl rfl Tryd.func38 (by kernel_rfl) rfl #[.int .i64 (wrap64 ((wrap64 ((wrap64 (Int.tdiv (wrap64 ((wrap64 ((wrap64 (t113 - (wrap64 (Int.tdiv t113 1460)))) + (wrap64 (Int.tdiv t113 36524)))) - (wrap64 (Int.tdiv t113 146096)))) 365)) + (wrap64 (400 * t112)))) + 1))] rfl (by (try simp only [List.map_toArray, List.map_cons, List.map_nil]); first | done | rfl | (simp only [List.length_drop, List.length_take]; rfl)) ?_; (with_reducible refine (civil_may.calls (wrap64 ((wrap64 ((wrap64 (Int.tdiv (wrap64 ((wrap64 ((wrap64 (t113 - (wrap64 (Int.tdiv t113 1460)))) + (wrap64 (Int.tdiv t113 36524)))) - (wrap64 (Int.tdiv t113 146096)))) 365)) + (wrap64 (400 * t112)))) + 1)) true _ A6.out (by first | exact hG | exact hG.drewN _ | exact (hG.drewN _).drewN _ | exact hG.below HB.out | exact hG.below (by repeat (first | (with_reducible first | exact HB.out | apply below_alloc | apply pw_below_drewN | apply below_drew1 | refine below_set ?_ (Aside0.out (by assumption))) | exact HB.out)))).mono ?_); rintro e w' ⟨rfl, ⟨nd, rfl⟩⟩; refine ⟨_, rfl, ?_⟩))
        refine bodyPost_ret (results_list (rs := [.tmp 2, .tmp 3, .tmp 4, .tmp 5]) rfl (by simp) (.tmp (.tmp (.tmp (.tmp .nil))))) rfl ?_
        exact ⟨by first | rfl | (simp; done) | (simp [*]; done), by repeat (first | exact Drawn0.refl _ | apply Drawn0.step)⟩
      · replace c7 := Bool.eq_false_iff.mpr c7
        subst c7
        have H1 : (some (0, 0, 0, 2)) = some (r1, r2, r3, r4) := by rw [if_neg (show ¬ (false = true) by decide)] at H; exact H
        clear H
        have H := H1
        clear H1
        simp only [Option.some.injEq, Prod.mk.injEq] at H
        obtain ⟨rfl, rfl, rfl, rfl⟩ := H
        go_enter Tryd.func31, Tryd.ntmps31
        go_wp2_with (first | ((with_reducible refine gate_callee (f := 42) rfl ?_); refine goesL_ (some 15) rfl rfl Tryd.func42 (by kernel_rfl) rfl #[.int .i64 a0, .int .i64 719468] rfl (by (try simp only [List.map_toArray, List.map_cons, List.map_nil]); first | done | rfl | (simp only [List.length_drop, List.length_take]; rfl)) ?_; (with_reducible refine (number_Add.calls a0 719468 t110 true _ A2.out (by first | exact hG | exact hG.drewN _ | exact (hG.drewN _).drewN _ | exact hG.below HB.out | exact hG.below (by repeat (first | (with_reducible first | exact HB.out | apply below_alloc | apply pw_below_drewN | apply below_drew1 | refine below_set ?_ (Aside0.out (by assumption))) | exact HB.out)))).mono ?_); rintro e w' ⟨rfl, ⟨nd, rfl⟩⟩; refine ⟨_, rfl, ?_⟩) | ((with_reducible refine gate_callee (f := 30) rfl ?_); refine goesL_ (some 22) rfl rfl Tryd.func30 (by kernel_rfl) rfl #[.int .i64 t110, .int .i64 146097] rfl (by (try simp only [List.map_toArray, List.map_cons, List.map_nil]); first | done | rfl | (simp only [List.length_drop, List.length_take]; rfl)) ?_; (with_reducible refine (number_Div.calls t110 146097 t112 t113 t114 _ A4.out (by first | exact hG | exact hG.drewN _ | exact (hG.drewN _).drewN _ | exact hG.below HB.out | exact hG.below (by repeat (first | (with_reducible first | exact HB.out | apply below_alloc | apply pw_below_drewN | apply below_drew1 | refine below_set ?_ (Aside0.out (by assumption))) | exact HB.out)))).mono ?_); rintro e w' ⟨rfl, ⟨nd, rfl⟩⟩; refine ⟨_, rfl, ?_⟩) | ((with_reducible refine gate_callee (f := 38) rfl ?_); refine goesL_ (some 71) rfl rfl Tryd.func38 (by kernel_rfl) rfl #[.int .i64 (wrap64 ((wrap64 ((wrap64 (Int.tdiv (wrap64 ((wrap64 ((wrap64 (t113 - (wrap64 (Int.tdiv t113 1460)))) + (wrap64 (Int.tdiv t113 36524)))) - (wrap64 (Int.tdiv t113 146096)))) 365)) + (wrap64 (400 * t112)))) + 1))] rfl (by (try simp only [List.map_toArray, List.map_cons, List.map_nil]); first | done | rfl | (simp only [List.length_drop, List.length_take]; rfl)) ?_; (with_reducible refine (civil_may.calls (wrap64 ((wrap64 ((wrap64 (Int.tdiv (wrap64 ((wrap64 ((wrap64 (t113 - (wrap64 (Int.tdiv t113 1460)))) + (wrap64 (Int.tdiv t113 36524)))) - (wrap64 (Int.tdiv t113 146096)))) 365)) + (wrap64 (400 * t112)))) + 1)) false _ A6.out (by first | exact hG | exact hG.drewN _ | exact (hG.drewN _).drewN _ | exact hG.below HB.out | exact hG.below (by repeat (first | (with_reducible first | exact HB.out | apply below_alloc | apply pw_below_drewN | apply below_drew1 | refine below_set ?_ (Aside0.out (by assumption))) | exact HB.out)))).mono ?_); rintro e w' ⟨rfl, ⟨nd, rfl⟩⟩; refine ⟨_, rfl, ?_⟩))
        refine bodyPost_ret (results_list (rs := [.tmp 2, .tmp 3, .tmp 4, .tmp 5]) rfl (by simp) (.tmp (.tmp (.tmp (.tmp .nil))))) rfl ?_
        exact ⟨by first | rfl | (simp; done) | (simp [*]; done), by repeat (first | exact Drawn0.refl _ | apply Drawn0.step)⟩
    · rw [if_neg c5] at H
      have c5b0 : decide (12 < (wrap64 ((wrap64 (Int.tdiv (wrap64 ((wrap64 (5 * (wrap64 (t113 - (wrap64 ((wrap64 ((wrap64 (365 * (wrap64 (Int.tdiv (wrap64 ((wrap64 ((wrap64 (t113 - (wrap64 (Int.tdiv t113 1460)))) + (wrap64 (Int.tdiv t113 36524)))) - (wrap64 (Int.tdiv t113 146096)))) 365)))) + (wrap64 (Int.tdiv (wrap64 (Int.tdiv (wrap64 ((wrap64 ((wrap64 (t113 - (wrap64 (Int.tdiv t113 1460)))) + (wrap64 (Int.tdiv t113 36524)))) - (wrap64 (Int.tdiv t113 146096)))) 365)) 4)))) - (wrap64 (Int.tdiv (wrap64 (Int.tdiv (wrap64 ((wrap64 ((wrap64 (t113 - (wrap64 (Int.tdiv t113 1460)))) + (wrap64 (Int.tdiv t113 36524)))) - (wrap64 (Int.tdiv t113 146096)))) 365)) 100)))))))) + 2)) 153)) + 3))) = false := decide_eq_false c5
      clear c5
      replace H := Option.bind_eq_some_iff.mp H
      obtain ⟨t116, A80, H⟩ := H
      replace H : (if t116 = true then (some (wrap64 ((wrap64 (Int.tdiv (wrap64 ((wrap64 ((wrap64 (t113 - (wrap64 (Int.tdiv t113 1460)))) + (wrap64 (Int.tdiv t113 36524)))) - (wrap64 (Int.tdiv t113 146096)))) 365)) + (wrap64 (400 * t112))), wrap64 ((wrap64 (Int.tdiv (wrap64 ((wrap64 (5 * (wrap64 (t113 - (wrap64 ((wrap64 ((wrap64 (365 * (wrap64 (Int.tdiv (wrap64 ((wrap64 ((wrap64 (t113 - (wrap64 (Int.tdiv t113 1460)))) + (wrap64 (Int.tdiv t113 36524)))) - (wrap64 (Int.tdiv t113 146096)))) 365)))) + (wrap64 (Int.tdiv (wrap64 (Int.tdiv (wrap64 ((wrap64 ((wrap64 (t113 - (wrap64 (Int.tdiv t113 1460)))) + (wrap64 (Int.tdiv t113 36524)))) - (wrap64 (Int.tdiv t113 146096)))) 365)) 4)))) - (wrap64 (Int.tdiv (wrap64 (Int.tdiv (wrap64 ((wrap64 ((wrap64 (t113 - (wrap64 (Int.tdiv t113 1460)))) + (wrap64 (Int.tdiv t113 36524)))) - (wrap64 (Int.tdiv t113 146096)))) 365)) 100)))))))) + 2)) 153)) + 3), wrap64 ((wrap64 ((wrap64 (t113 - (wrap64 ((wrap64 ((wrap64 (365 * (wrap64 (Int.tdiv (wrap64 ((wrap64 ((wrap64 (t113 - (wrap64 (Int.tdiv t113 1460)))) + (wrap64 (Int.tdiv t113 36524)))) - (wrap64 (Int.tdiv t113 146096)))) 365)))) + (wrap64 (Int.tdiv (wrap64 (Int.tdiv (wrap64 ((wrap64 ((wrap64 (t113 - (wrap64 (Int.tdiv t113 1460)))) + (wrap64 (Int.tdiv t113 36524)))) - (wrap64 (Int.tdiv t113 146096)))) 365)) 4)))) - (wrap64 (Int.tdiv (wrap64 (Int.tdiv (wrap64 ((wrap64 ((wrap64 (t113 - (wrap64 (Int.tdiv t113 1460)))) + (wrap64 (Int.tdiv t113 36524)))) - (wrap64 (Int.tdiv t113 146096)))) 365)) 100)))))) - (wrap64 (Int.tdiv (wrap64 ((wrap64 (153 * (wrap64 (Int.tdiv (wrap64 ((wrap64 (5 * (wrap64 (t113 - (wrap64 ((wrap64 ((wrap64 (365 * (wrap64 (Int.tdiv (wrap64 ((wrap64 ((wrap64 (t113 - (wrap64 (Int.tdiv t113 1460)))) + (wrap64 (Int.tdiv t113 36524)))) - (wrap64 (Int.tdiv t113 146096)))) 365)))) + (wrap64 (Int.tdiv (wrap64 (Int.tdiv (wrap64 ((wrap64 ((wrap64 (t113 - (wrap64 (Int.tdiv t113 1460)))) + (wrap64 (Int.tdiv t113 36524)))) - (wrap64 (Int.tdiv t113 146096)))) 365)) 4)))) - (wrap64 (Int.tdiv (wrap64 (Int.tdiv (wrap64 ((wrap64 ((wrap64 (t113 - (wrap64 (Int.tdiv t113 1460)))) + (wrap64 (Int.tdiv t113 36524)))) - (wrap64 (Int.tdiv t113 146096)))) 365)) 100)))))))) + 2)) 153)))) + 2)) 5)))) + 1), 0)) else (some (0, 0, 0, 2))) = some (r1, r2, r3, r4) := H
      have A8 := Aside0.mk A80
      clear A80
      by_cases c9 : t116 = true
      · subst c9
        have H1 : (some (wrap64 ((wrap64 (Int.tdiv (wrap64 ((wrap64 ((wrap64 (t113 - (wrap64 (Int.tdiv t113 1460)))) + (wrap64 (Int.tdiv t113 36524)))) - (wrap64 (Int.tdiv t113 146096)))) 365)) + (wrap64 (400 * t112))), wrap64 ((wrap64 (Int.tdiv (wrap64 ((wrap64 (5 * (wrap64 (t113 - (wrap64 ((wrap64 ((wrap64 (365 * (wrap64 (Int.tdiv (wrap64 ((wrap64 ((wrap64 (t113 - (wrap64 (Int.tdiv t113 1460)))) + (wrap64 (Int.tdiv t113 36524)))) - (wrap64 (Int.tdiv t113 146096)))) 365)))) + (wrap64 (Int.tdiv (wrap64 (Int.tdiv (wrap64 ((wrap64 ((wrap64 (t113 - (wrap64 (Int.tdiv t113 1460)))) + (wrap64 (Int.tdiv t113 36524)))) - (wrap64 (Int.tdiv t113 146096)))) 365)) 4)))) - (wrap64 (Int.tdiv (wrap64 (Int.tdiv (wrap64 ((wrap64 ((wrap64 (t113 - (wrap64 (Int.tdiv t113 1460)))) + (wrap64 (Int.tdiv t113 36524)))) - (wrap64 (Int.tdiv t113 146096)))) 365)) 100)))))))) + 2)) 153)) + 3), wrap64 ((wrap64 ((wrap64 (t113 - (wrap64 ((wrap64 ((wrap64 (365 * (wrap64 (Int.tdiv (wrap64 ((wrap64 ((wrap64 (t113 - (wrap64 (Int.tdiv t113 1460)))) + (wrap64 (Int.tdiv t113 36524)))) - (wrap64 (Int.tdiv t113 146096)))) 365)))) + (wrap64 (Int.tdiv (wrap64 (Int.tdiv (wrap64 ((wrap64 ((wrap64 (t113 - (wrap64 (Int.tdiv t113 1460)))) + (wrap64 (Int.tdiv t113 36524)))) - (wrap64 (Int.tdiv t113 146096)))) 365)) 4)))) - (wrap64 (Int.tdiv (wrap64 (Int.tdiv (wrap64 ((wrap64 ((wrap64 (t113 - (wrap64 (Int.tdiv t113 1460)))) + (wrap64 (Int.tdiv t113 36524)))) - (wrap64 (Int.tdiv t113 146096)))) 365)) 100)))))) - (wrap64 (Int.tdiv (wrap64 ((wrap64 (153 * (wrap64 (Int.tdiv (wrap64 ((wrap64 (5 * (wrap64 (t113 - (wrap64 ((wrap64 ((wrap64 (365 * (wrap64 (Int.tdiv (wrap64 ((wrap64 ((wrap64 (t113 - (wrap64 (Int.tdiv t113 1460)))) + (wrap64 (Int.tdiv t113 36524)))) - (wrap64 (Int.tdiv t113 146096)))) 365)))) + (wrap64 (Int.tdiv (wrap64 (Int.tdiv (wrap64 ((wrap64 ((wrap64 (t113 - (wrap64 (Int.tdiv t113 1460)))) + (wrap64 (Int.tdiv t113 36524)))) - (wrap64 (Int.tdiv t113 146096)))) 365)) 4)))) - (wrap64 (Int.tdiv (wrap64 (Int.tdiv (wrap64 ((wrap64 ((wrap64 (t113 - (wrap64 (Int.tdiv t113 1460)))) + (wrap64 (Int.tdiv t113 36524)))) - (wrap64 (Int.tdiv t113 146096)))) 365)) 100)))))))) + 2)) 153)))) + 2)) 5)))) + 1), 0)) = some (r1, r2, r3, r4) := by rw [if_pos rfl] at H; exact H
        clear H
        have H := H1
        clear H1
        simp only [Option.some.injEq, Prod.mk.injEq] at H
        obtain ⟨rfl, rfl, rfl, rfl⟩ := H
        go_enter Tryd.func31, Tryd.ntmps31
        go_wp2_with (first | ((with_reducible refine gate_callee (f := 42) rfl ?_); refine goesL_ (some 15) rfl rfl Tryd.func42 (by kernel_rfl) rfl #[.int .i64 a0, .int .i64 719468] rfl (by (try simp only [List.map_toArray, List.map_cons, List.map_nil]); first | done | rfl | (simp only [List.length_drop, List.length_take]; rfl)) ?_; (with_reducible refine (number_Add.calls a0 719468 t110 true _ A2.out (by first | exact hG | exact hG.drewN _ | exact (hG.drewN _).drewN _ | exact hG.below HB.out | exact hG.below (by repeat (first | (with_reducible first | exact HB.out | apply below_alloc | apply pw_below_drewN | apply below_drew1 | refine below_set ?_ (Aside0.out (by assumption))) | exact HB.out)))).mono ?_); rintro e w' ⟨rfl, ⟨nd, rfl⟩⟩; refine ⟨_, rfl, ?_⟩) | ((with_reducible refine gate_callee (f := 30) rfl ?_); refine goesL_ (some 22) rfl rfl Tryd.func30 (by kernel_rfl) rfl #[.int .i64 t110, .int .i64 146097] rfl (by (try simp only [List.map_toArray, List.map_cons, List.map_nil]); first | done | rfl | (simp only [List.length_drop, List.length_take]; rfl)) ?_; (with_reducible refine (number_Div.calls t110 146097 t112 t113 t114 _ A4.out (by first | exact hG | exact hG.drewN _ | exact (hG.drewN _).drewN _ | exact hG.below HB.out | exact hG.below (by repeat (first | (with_reducible first | exact HB.out | apply below_alloc | apply pw_below_drewN | apply below_drew1 | refine below_set ?_ (Aside0.out (by assumption))) | exact HB.out)))).mono ?_); rintro e w' ⟨rfl, ⟨nd, rfl⟩⟩; refine ⟨_, rfl, ?_⟩) | ((with_reducible refine gate_callee (f := 38) rfl ?_); refine goesL_ (some 71) rfl rfl Tryd.func38 (by kernel_rfl) rfl #[.int .i64 (wrap64 ((wrap64 (Int.tdiv (wrap64 ((wrap64 ((wrap64 (t113 - (wrap64 (Int.tdiv t113 1460)))) + (wrap64 (Int.tdiv t113 36524)))) - (wrap64 (Int.tdiv t113 146096)))) 365)) + (wrap64 (400 * t112))))] rfl (by (try simp only [List.map_toArray, List.map_cons, List.map_nil]); first | done | rfl | (simp only [List.length_drop, List.length_take]; rfl)) ?_; (with_reducible refine (civil_may.calls (wrap64 ((wrap64 (Int.tdiv (wrap64 ((wrap64 ((wrap64 (t113 - (wrap64 (Int.tdiv t113 1460)))) + (wrap64 (Int.tdiv t113 36524)))) - (wrap64 (Int.tdiv t113 146096)))) 365)) + (wrap64 (400 * t112)))) true _ A8.out (by first | exact hG | exact hG.drewN _ | exact (hG.drewN _).drewN _ | exact hG.below HB.out | exact hG.below (by repeat (first | (with_reducible first | exact HB.out | apply below_alloc | apply pw_below_drewN | apply below_drew1 | refine below_set ?_ (Aside0.out (by assumption))) | exact HB.out)))).mono ?_); rintro e w' ⟨rfl, ⟨nd, rfl⟩⟩; refine ⟨_, rfl, ?_⟩))
        refine bodyPost_ret (results_list (rs := [.tmp 2, .tmp 3, .tmp 4, .tmp 5]) rfl (by simp) (.tmp (.tmp (.tmp (.tmp .nil))))) rfl ?_
        exact ⟨by first | rfl | (simp; done) | (simp [*]; done), by repeat (first | exact Drawn0.refl _ | apply Drawn0.step)⟩
      · replace c9 := Bool.eq_false_iff.mpr c9
        subst c9
        have H1 : (some (0, 0, 0, 2)) = some (r1, r2, r3, r4) := by rw [if_neg (show ¬ (false = true) by decide)] at H; exact H
        clear H
        have H := H1
        clear H1
        simp only [Option.some.injEq, Prod.mk.injEq] at H
        obtain ⟨rfl, rfl, rfl, rfl⟩ := H
        go_enter Tryd.func31, Tryd.ntmps31
        go_wp2_with (first | ((with_reducible refine gate_callee (f := 42) rfl ?_); refine goesL_ (some 15) rfl rfl Tryd.func42 (by kernel_rfl) rfl #[.int .i64 a0, .int .i64 719468] rfl (by (try simp only [List.map_toArray, List.map_cons, List.map_nil]); first | done | rfl | (simp only [List.length_drop, List.length_take]; rfl)) ?_; (with_reducible refine (number_Add.calls a0 719468 t110 true _ A2.out (by first | exact hG | exact hG.drewN _ | exact (hG.drewN _).drewN _ | exact hG.below HB.out | exact hG.below (by repeat (first | (with_reducible first | exact HB.out | apply below_alloc | apply pw_below_drewN | apply below_drew1 | refine below_set ?_ (Aside0.out (by assumption))) | exact HB.out)))).mono ?_); rintro e w' ⟨rfl, ⟨nd, rfl⟩⟩; refine ⟨_, rfl, ?_⟩) | ((with_reducible refine gate_callee (f := 30) rfl ?_); refine goesL_ (some 22) rfl rfl Tryd.func30 (by kernel_rfl) rfl #[.int .i64 t110, .int .i64 146097] rfl (by (try simp only [List.map_toArray, List.map_cons, List.map_nil]); first | done | rfl | (simp only [List.length_drop, List.length_take]; rfl)) ?_; (with_reducible refine (number_Div.calls t110 146097 t112 t113 t114 _ A4.out (by first | exact hG | exact hG.drewN _ | exact (hG.drewN _).drewN _ | exact hG.below HB.out | exact hG.below (by repeat (first | (with_reducible first | exact HB.out | apply below_alloc | apply pw_below_drewN | apply below_drew1 | refine below_set ?_ (Aside0.out (by assumption))) | exact HB.out)))).mono ?_); rintro e w' ⟨rfl, ⟨nd, rfl⟩⟩; refine ⟨_, rfl, ?_⟩) | ((with_reducible refine gate_callee (f := 38) rfl ?_); refine goesL_ (some 71) rfl rfl Tryd.func38 (by kernel_rfl) rfl #[.int .i64 (wrap64 ((wrap64 (Int.tdiv (wrap64 ((wrap64 ((wrap64 (t113 - (wrap64 (Int.tdiv t113 1460)))) + (wrap64 (Int.tdiv t113 36524)))) - (wrap64 (Int.tdiv t113 146096)))) 365)) + (wrap64 (400 * t112))))] rfl (by (try simp only [List.map_toArray, List.map_cons, List.map_nil]); first | done | rfl | (simp only [List.length_drop, List.length_take]; rfl)) ?_; (with_reducible refine (civil_may.calls (wrap64 ((wrap64 (Int.tdiv (wrap64 ((wrap64 ((wrap64 (t113 - (wrap64 (Int.tdiv t113 1460)))) + (wrap64 (Int.tdiv t113 36524)))) - (wrap64 (Int.tdiv t113 146096)))) 365)) + (wrap64 (400 * t112)))) false _ A8.out (by first | exact hG | exact hG.drewN _ | exact (hG.drewN _).drewN _ | exact hG.below HB.out | exact hG.below (by repeat (first | (with_reducible first | exact HB.out | apply below_alloc | apply pw_below_drewN | apply below_drew1 | refine below_set ?_ (Aside0.out (by assumption))) | exact HB.out)))).mono ?_); rintro e w' ⟨rfl, ⟨nd, rfl⟩⟩; refine ⟨_, rfl, ?_⟩))
        refine bodyPost_ret (results_list (rs := [.tmp 2, .tmp 3, .tmp 4, .tmp 5]) rfl (by simp) (.tmp (.tmp (.tmp (.tmp .nil))))) rfl ?_
        exact ⟨by first | rfl | (simp; done) | (simp [*]; done), by repeat (first | exact Drawn0.refl _ | apply Drawn0.step)⟩
  · replace c3 := Bool.eq_false_iff.mpr c3
    subst c3
    have H1 : (some (0, 0, 0, 2)) = some (r1, r2, r3, r4) := by rw [if_neg (show ¬ (false = true) by decide)] at H; exact H
    clear H
    have H := H1
    clear H1
    simp only [Option.some.injEq, Prod.mk.injEq] at H
    obtain ⟨rfl, rfl, rfl, rfl⟩ := H
    go_enter Tryd.func31, Tryd.ntmps31
    go_wp2_with (first | ((with_reducible refine gate_callee (f := 42) rfl ?_); refine goesL_ (some 15) rfl rfl Tryd.func42 (by kernel_rfl) rfl #[.int .i64 a0, .int .i64 719468] rfl (by (try simp only [List.map_toArray, List.map_cons, List.map_nil]); first | done | rfl | (simp only [List.length_drop, List.length_take]; rfl)) ?_; (with_reducible refine (number_Add.calls a0 719468 t110 false _ A2.out (by first | exact hG | exact hG.drewN _ | exact (hG.drewN _).drewN _ | exact hG.below HB.out | exact hG.below (by repeat (first | (with_reducible first | exact HB.out | apply below_alloc | apply pw_below_drewN | apply below_drew1 | refine below_set ?_ (Aside0.out (by assumption))) | exact HB.out)))).mono ?_); rintro e w' ⟨rfl, ⟨nd, rfl⟩⟩; refine ⟨_, rfl, ?_⟩))
    refine bodyPost_ret (results_list (rs := [.tmp 2, .tmp 3, .tmp 4, .tmp 5]) rfl (by simp) (.tmp (.tmp (.tmp (.tmp .nil))))) rfl ?_
    exact ⟨by first | rfl | (simp; done) | (simp [*]; done), by repeat (first | exact Drawn0.refl _ | apply Drawn0.step)⟩

/-! ### clock_Of: function 17 -/
def clock_Of.f (a0 : Int) : Option (Int × Int × Int × Int × Int × Int × Int) := (number_Div.f a0 86400).bind fun bt118 => ((civil_Date.f bt118.1).bind fun bt121 => (if bt121.2.2.2 = 0 then (some (bt121.1, bt121.2.1, bt121.2.2.1, wrap64 (Int.tdiv bt118.2.1 3600), wrap64 (Int.tdiv (Int.tmod bt118.2.1 3600) 60), Int.tmod bt118.2.1 60, 0)) else (some (0, 0, 0, 0, 0, 0, bt121.2.2.2))))
set_option maxHeartbeats 8000000 in
set_option maxRecDepth 100000 in
theorem clock_Of.calls (a0 : Int) (r1 : Int) (r2 : Int) (r3 : Int) (r4 : Int) (r5 : Int) (r6 : Int) (r7 : Int) (w : World) (h : clock_Of.f a0 = some (r1, r2, r3, r4, r5, r6, r7)) : Glob w →
    Calls Tryd.prog 17 #[.int .i64 a0] w fun e w' => e = .returned (.tuple #[.agg #[.int .i64 r1, .int .i64 r2, .int .i64 r3, .int .i64 r4, .int .i64 r5, .int .i64 r6], .int .i64 r7]) ∧ Below w.heap.size w w' := by
  intro hG
  have hu23 := Tryd.underlying23
  have HB := Aside0.mk (Below.refl w.heap.size w)
  have H : ((number_Div.f a0 86400).bind fun bt118 => ((civil_Date.f bt118.1).bind fun bt121 => (if bt121.2.2.2 = 0 then (some (bt121.1, bt121.2.1, bt121.2.2.1, wrap64 (Int.tdiv bt118.2.1 3600), wrap64 (Int.tdiv (Int.tmod bt118.2.1 3600) 60), Int.tmod bt118.2.1 60, 0)) else (some (0, 0, 0, 0, 0, 0, bt121.2.2.2))))) = some (r1, r2, r3, r4, r5, r6, r7) := h
  clear h
  replace H := Option.bind_eq_some_iff.mp H
  obtain ⟨⟨t118, t119, t120⟩, A20, H⟩ := H
  replace H : ((civil_Date.f t118).bind fun bt121 => (if bt121.2.2.2 = 0 then (some (bt121.1, bt121.2.1, bt121.2.2.1, wrap64 (Int.tdiv t119 3600), wrap64 (Int.tdiv (Int.tmod t119 3600) 60), Int.tmod t119 60, 0)) else (some (0, 0, 0, 0, 0, 0, bt121.2.2.2)))) = some (r1, r2, r3, r4, r5, r6, r7) := H
  have A2 := Aside0.mk A20
  clear A20
  replace H := Option.bind_eq_some_iff.mp H
  obtain ⟨⟨t121, t122, t123, t124⟩, A30, H⟩ := H
  replace H : (if t124 = 0 then (some (t121, t122, t123, wrap64 (Int.tdiv t119 3600), wrap64 (Int.tdiv (Int.tmod t119 3600) 60), Int.tmod t119 60, 0)) else (some (0, 0, 0, 0, 0, 0, t124))) = some (r1, r2, r3, r4, r5, r6, r7) := H
  have A3 := Aside0.mk A30
  clear A30
  by_cases c4 : t124 = 0
  · rw [if_pos c4] at H
    have c4b0 : (t124 == 0) = true := beq_iff_eq.mpr c4
    have c4b1 : (t124 != 0) = false := bne_eq_false_iff_eq.mpr c4
    clear c4
    simp only [Option.some.injEq, Prod.mk.injEq] at H
    obtain ⟨rfl, rfl, rfl, rfl, rfl, rfl, rfl⟩ := H
    go_enter Tryd.func17, Tryd.ntmps17
    go_wp2_with (first | ((with_reducible refine gate_dst (N := 2) rfl ?_); refine box_event ?hg (N := 2) ?hd (cs := #[.int .i64 0, .int .i64 0, .int .i64 0, .int .i64 0, .int .i64 0, .int .i64 0]) (t := 23) ?hr ?_; (case hd => rfl); (case hg => rfl); (case hr => first | (go_simp; done) | (go_simp; rfl)); intro gb117 hg w5 hbox hb; have n0_ := Aside0.mk (below_step (by repeat (first | (with_reducible first | exact HB.out | apply below_alloc | apply pw_below_drewN | apply below_drew1) | exact HB.out)) hb); have n1_ := Aside0.mk (hbox); have n2_ := Aside0.mk ((by rw [hg]; exact (below_size (by repeat (first | (with_reducible first | exact HB.out | apply below_alloc | apply pw_below_drewN | apply below_drew1) | exact HB.out))) : w.heap.size ≤ gb117)); have n3_ := Aside0.mk ((by rw [hg]; exact (below_size (by repeat (first | (with_reducible first | exact HB.out | apply below_alloc | apply pw_below_drewN | apply below_drew1) | exact HB.out))) : w.heap.size ≤ gb117)); clear HB; have HB := n0_; have BK117 := n1_; have GW117 := n2_; have GE117 := n3_; clear n0_ n1_ n2_ n3_; clear hb hbox hg) | ((with_reducible refine gate_callee (f := 30) rfl ?_); refine goesL_ (some 10) rfl rfl Tryd.func30 (by kernel_rfl) rfl #[.int .i64 a0, .int .i64 86400] rfl (by (try simp only [List.map_toArray, List.map_cons, List.map_nil]); first | done | rfl | (simp only [List.length_drop, List.length_take]; rfl)) ?_; (with_reducible refine (number_Div.calls a0 86400 t118 t119 t120 _ A2.out (by first | exact hG | exact hG.drewN _ | exact (hG.drewN _).drewN _ | exact hG.below HB.out | exact hG.below (by repeat (first | (with_reducible first | exact HB.out | apply below_alloc | apply pw_below_drewN | apply below_drew1 | refine below_set ?_ (Aside0.out (by assumption))) | exact HB.out)))).mono ?_); rintro e w' ⟨rfl, ⟨nd, rfl⟩⟩; refine ⟨_, rfl, ?_⟩; (try (rw [drewN_self w5]; generalize hq_ : World.drewN w5 _ = w5; have n0_ : Aside0 (w5.heap[gb117]? = some (.cells #[.int .i64 0, .int .i64 0, .int .i64 0, .int .i64 0, .int .i64 0, .int .i64 0] 23 (0, 0))) := ⟨by rw [← hq_]; exact (by (with_reducible repeat (first | refine blk_drewN ?_ _ | refine blk_drew ?_ | refine blk_alloc ?_ _)); exact BK117.out)⟩; have n1_ : Aside0 (Below w.heap.size w w5) := ⟨by rw [← hq_]; exact (by repeat (first | (with_reducible first | exact HB.out | apply below_alloc | apply pw_below_drewN | apply below_drew1 | refine below_set ?_ GE117.out) | exact HB.out))⟩; clear BK117 HB hq_; have BK117 := n0_; have HB := n1_; clear n0_ n1_))) | ((with_reducible refine gate_callee (f := 31) rfl ?_); refine goesL_ (some 16) rfl rfl Tryd.func31 (by kernel_rfl) rfl #[.int .i64 t118] rfl (by (try simp only [List.map_toArray, List.map_cons, List.map_nil]); first | done | rfl | (simp only [List.length_drop, List.length_take]; rfl)) ?_; (with_reducible refine (civil_Date.calls t118 t121 t122 t123 t124 _ A3.out (by first | exact hG | exact hG.drewN _ | exact (hG.drewN _).drewN _ | exact hG.below HB.out | exact hG.below (by repeat (first | (with_reducible first | exact HB.out | apply below_alloc | apply pw_below_drewN | apply below_drew1 | refine below_set ?_ (Aside0.out (by assumption))) | exact HB.out)))).mono ?_); rintro e w' ⟨rfl, ⟨nd, rfl⟩⟩; refine ⟨_, rfl, ?_⟩; (try (rw [drewN_self w5]; generalize hq_ : World.drewN w5 _ = w5; have n0_ : Aside0 (w5.heap[gb117]? = some (.cells #[.int .i64 0, .int .i64 0, .int .i64 0, .int .i64 0, .int .i64 0, .int .i64 0] 23 (0, 0))) := ⟨by rw [← hq_]; exact (by (with_reducible repeat (first | refine blk_drewN ?_ _ | refine blk_drew ?_ | refine blk_alloc ?_ _)); exact BK117.out)⟩; have n1_ : Aside0 (Below w.heap.size w w5) := ⟨by rw [← hq_]; exact (by repeat (first | (with_reducible first | exact HB.out | apply below_alloc | apply pw_below_drewN | apply below_drew1 | refine below_set ?_ GE117.out) | exact HB.out))⟩; clear BK117 HB hq_; have BK117 := n0_; have HB := n1_; clear n0_ n1_)); have hcz6_0 : w5.cell? ⟨gb117, 0, none⟩ = some (.int .i64 0) := (blk_cell BK117.out 0).trans rfl; have hcz6_1 : w5.cell? ⟨gb117, 1, none⟩ = some (.int .i64 0) := (blk_cell BK117.out 1).trans rfl; have hcz6_2 : w5.cell? ⟨gb117, 2, none⟩ = some (.int .i64 0) := (blk_cell BK117.out 2).trans rfl; have hcz6_3 : w5.cell? ⟨gb117, 3, none⟩ = some (.int .i64 0) := (blk_cell BK117.out 3).trans rfl; have hcz6_4 : w5.cell? ⟨gb117, 4, none⟩ = some (.int .i64 0) := (blk_cell BK117.out 4).trans rfl; have hcz6_5 : w5.cell? ⟨gb117, 5, none⟩ = some (.int .i64 0) := (blk_cell BK117.out 5).trans rfl; have hfz6_0 := blk_frozen BK117.out 0; have hfz6_1 := blk_frozen BK117.out 1; have hfz6_2 := blk_frozen BK117.out 2; have hfz6_3 := blk_frozen BK117.out 3; have hfz6_4 := blk_frozen BK117.out 4; have hfz6_5 := blk_frozen BK117.out 5))
    refine bodyPost_ret (results_ct rfl _ _ gb117 23 #[.int .i64 t121, .int .i64 t122, .int .i64 t123, .int .i64 (wrap64 (Int.tdiv t119 3600)), .int .i64 (wrap64 (Int.tdiv (Int.tmod t119 3600) 60)), .int .i64 (Int.tmod t119 60)] (0, 0) _ rfl (by (with_reducible repeat (first | refine blk_drewN ?_ _ | refine blk_drew ?_ | refine blk_alloc ?_ _)); refine blk_put (cs := #[.int .i64 t121, .int .i64 t122, .int .i64 t123, .int .i64 (wrap64 (Int.tdiv t119 3600)), .int .i64 (wrap64 (Int.tdiv (Int.tmod t119 3600) 60)), .int .i64 (Int.tmod t119 60)]) ?_ 5 _ rfl; (with_reducible repeat (first | refine blk_drewN ?_ _ | refine blk_drew ?_ | refine blk_alloc ?_ _)); refine blk_put (cs := #[.int .i64 t121, .int .i64 t122, .int .i64 t123, .int .i64 (wrap64 (Int.tdiv t119 3600)), .int .i64 (wrap64 (Int.tdiv (Int.tmod t119 3600) 60)), .int .i64 (Int.tmod t119 60)]) ?_ 4 _ rfl; (with_reducible repeat (first | refine blk_drewN ?_ _ | refine blk_drew ?_ | refine blk_alloc ?_ _)); refine blk_put (cs := #[.int .i64 t121, .int .i64 t122, .int .i64 t123, .int .i64 (wrap64 (Int.tdiv t119 3600)), .int .i64 (wrap64 (Int.tdiv (Int.tmod t119 3600) 60)), .int .i64 (Int.tmod t119 60)]) ?_ 3 _ rfl; (with_reducible repeat (first | refine blk_drewN ?_ _ | refine blk_drew ?_ | refine blk_alloc ?_ _)); refine blk_put (cs := #[.int .i64 t121, .int .i64 t122, .int .i64 t123, .int .i64 (wrap64 (Int.tdiv t119 3600)), .int .i64 (wrap64 (Int.tdiv (Int.tmod t119 3600) 60)), .int .i64 (Int.tmod t119 60)]) ?_ 2 _ rfl; (with_reducible repeat (first | refine blk_drewN ?_ _ | refine blk_drew ?_ | refine blk_alloc ?_ _)); refine blk_put (cs := #[.int .i64 t121, .int .i64 t122, .int .i64 t123, .int .i64 (wrap64 (Int.tdiv t119 3600)), .int .i64 (wrap64 (Int.tdiv (Int.tmod t119 3600) 60)), .int .i64 (Int.tmod t119 60)]) ?_ 1 _ rfl; (with_reducible repeat (first | refine blk_drewN ?_ _ | refine blk_drew ?_ | refine blk_alloc ?_ _)); refine blk_put (cs := #[.int .i64 t121, .int .i64 t122, .int .i64 t123, .int .i64 (wrap64 (Int.tdiv t119 3600)), .int .i64 (wrap64 (Int.tdiv (Int.tmod t119 3600) 60)), .int .i64 (Int.tmod t119 60)]) ?_ 0 _ rfl; (with_reducible repeat (first | refine blk_drewN ?_ _ | refine blk_drew ?_ | refine blk_alloc ?_ _)); refine blk_put (cs := #[.int .i64 t121, .int .i64 t122, .int .i64 t123, .int .i64 (wrap64 (Int.tdiv t119 3600)), .int .i64 (wrap64 (Int.tdiv (Int.tmod t119 3600) 60)), .int .i64 0]) ?_ 5 _ rfl; (with_reducible repeat (first | refine blk_drewN ?_ _ | refine blk_drew ?_ | refine blk_alloc ?_ _)); refine blk_put (cs := #[.int .i64 t121, .int .i64 t122, .int .i64 t123, .int .i64 (wrap64 (Int.tdiv t119 3600)), .int .i64 0, .int .i64 0]) ?_ 4 _ rfl; (with_reducible repeat (first | refine blk_drewN ?_ _ | refine blk_drew ?_ | refine blk_alloc ?_ _)); refine blk_put (cs := #[.int .i64 t121, .int .i64 t122, .int .i64 t123, .int .i64 0, .int .i64 0, .int .i64 0]) ?_ 3 _ rfl; (with_reducible repeat (first | refine blk_drewN ?_ _ | refine blk_drew ?_ | refine blk_alloc ?_ _)); refine blk_put (cs := #[.int .i64 t121, .int .i64 t122, .int .i64 0, .int .i64 0, .int .i64 0, .int .i64 0]) ?_ 2 _ rfl; (with_reducible repeat (first | refine blk_drewN ?_ _ | refine blk_drew ?_ | refine blk_alloc ?_ _)); refine blk_put (cs := #[.int .i64 t121, .int .i64 0, .int .i64 0, .int .i64 0, .int .i64 0, .int .i64 0]) ?_ 1 _ rfl; (with_reducible repeat (first | refine blk_drewN ?_ _ | refine blk_drew ?_ | refine blk_alloc ?_ _)); refine blk_put (cs := #[.int .i64 0, .int .i64 0, .int .i64 0, .int .i64 0, .int .i64 0, .int .i64 0]) ?_ 0 _ rfl; (with_reducible repeat (first | refine blk_drewN ?_ _ | refine blk_drew ?_ | refine blk_alloc ?_ _)); exact BK117.out) Tryd.underlying23 rfl (by kernel_rfl)) rfl ?_
    exact ⟨by first | rfl | (simp [errW_none, errW_some] <;> rfl) | (simp [*, errW_none, errW_some] <;> rfl), by repeat (first | (with_reducible first | exact HB.out | apply below_alloc | apply pw_below_drewN | apply below_drew1 | refine below_set ?_ GE117.out) | exact HB.out)⟩
  · rw [if_neg c4] at H
    have c4b0 : (t124 == 0) = false := beq_eq_false_iff_ne.mpr c4
    have c4b1 : (t124 != 0) = true := bne_iff_ne.mpr c4
    simp only [Option.some.injEq, Prod.mk.injEq] at H
    obtain ⟨rfl, rfl, rfl, rfl, rfl, rfl, rfl⟩ := H
    go_enter Tryd.func17, Tryd.ntmps17
    go_wp2_with (first | ((with_reducible refine gate_dst (N := 2) rfl ?_); refine box_event ?hg (N := 2) ?hd (cs := #[.int .i64 0, .int .i64 0, .int .i64 0, .int .i64 0, .int .i64 0, .int .i64 0]) (t := 23) ?hr ?_; (case hd => rfl); (case hg => rfl); (case hr => first | (go_simp; done) | (go_simp; rfl)); intro gb117 hg w7 hbox hb; have n0_ := Aside0.mk (below_step (by repeat (first | (with_reducible first | exact HB.out | apply below_alloc | apply pw_below_drewN | apply below_drew1) | exact HB.out)) hb); have n1_ := Aside0.mk (hbox); have n2_ := Aside0.mk ((by rw [hg]; exact (below_size (by repeat (first | (with_reducible first | exact HB.out | apply below_alloc | apply pw_below_drewN | apply below_drew1) | exact HB.out))) : w.heap.size ≤ gb117)); have n3_ := Aside0.mk ((by rw [hg]; exact (below_size (by repeat (first | (with_reducible first | exact HB.out | apply below_alloc | apply pw_below_drewN | apply below_drew1) | exact HB.out))) : w.heap.size ≤ gb117)); clear HB; have HB := n0_; have BK117 := n1_; have GW117 := n2_; have GE117 := n3_; clear n0_ n1_ n2_ n3_; clear hb hbox hg) | ((with_reducible refine gate_callee (f := 30) rfl ?_); refine goesL_ (some 10) rfl rfl Tryd.func30 (by kernel_rfl) rfl #[.int .i64 a0, .int .i64 86400] rfl (by (try simp only [List.map_toArray, List.map_cons, List.map_nil]); first | done | rfl | (simp only [List.length_drop, List.length_take]; rfl)) ?_; (with_reducible refine (number_Div.calls a0 86400 t118 t119 t120 _ A2.out (by first | exact hG | exact hG.drewN _ | exact (hG.drewN _).drewN _ | exact hG.below HB.out | exact hG.below (by repeat (first | (with_reducible first | exact HB.out | apply below_alloc | apply pw_below_drewN | apply below_drew1 | refine below_set ?_ (Aside0.out (by assumption))) | exact HB.out)))).mono ?_); rintro e w' ⟨rfl, ⟨nd, rfl⟩⟩; refine ⟨_, rfl, ?_⟩; (try (rw [drewN_self w7]; generalize hq_ : World.drewN w7 _ = w7; have n0_ : Aside0 (w7.heap[gb117]? = some (.cells #[.int .i64 0, .int .i64 0, .int .i64 0, .int .i64 0, .int .i64 0, .int .i64 0] 23 (0, 0))) := ⟨by rw [← hq_]; exact (by (with_reducible repeat (first | refine blk_drewN ?_ _ | refine blk_drew ?_ | refine blk_alloc ?_ _)); exact BK117.out)⟩; have n1_ : Aside0 (Below w.heap.size w w7) := ⟨by rw [← hq_]; exact (by repeat (first | (with_reducible first | exact HB.out | apply below_alloc | apply pw_below_drewN | apply below_drew1 | refine below_set ?_ GE117.out) | exact HB.out))⟩; clear BK117 HB hq_; have BK117 := n0_; have HB := n1_; clear n0_ n1_))) | ((with_reducible refine gate_callee (f := 31) rfl ?_); refine goesL_ (some 16) rfl rfl Tryd.func31 (by kernel_rfl) rfl #[.int .i64 t118] rfl (by (try simp only [List.map_toArray, List.map_cons, List.map_nil]); first | done | rfl | (simp only [List.length_drop, List.length_take]; rfl)) ?_; (with_reducible refine (civil_Date.calls t118 t121 t122 t123 t124 _ A3.out (by first | exact hG | exact hG.drewN _ | exact (hG.drewN _).drewN _ | exact hG.below HB.out | exact hG.below (by repeat (first | (with_reducible first | exact HB.out | apply below_alloc | apply pw_below_drewN | apply below_drew1 | refine below_set ?_ (Aside0.out (by assumption))) | exact HB.out)))).mono ?_); rintro e w' ⟨rfl, ⟨nd, rfl⟩⟩; refine ⟨_, rfl, ?_⟩; (try (rw [drewN_self w7]; generalize hq_ : World.drewN w7 _ = w7; have n0_ : Aside0 (w7.heap[gb117]? = some (.cells #[.int .i64 0, .int .i64 0, .int .i64 0, .int .i64 0, .int .i64 0, .int .i64 0] 23 (0, 0))) := ⟨by rw [← hq_]; exact (by (with_reducible repeat (first | refine blk_drewN ?_ _ | refine blk_drew ?_ | refine blk_alloc ?_ _)); exact BK117.out)⟩; have n1_ : Aside0 (Below w.heap.size w w7) := ⟨by rw [← hq_]; exact (by repeat (first | (with_reducible first | exact HB.out | apply below_alloc | apply pw_below_drewN | apply below_drew1 | refine below_set ?_ GE117.out) | exact HB.out))⟩; clear BK117 HB hq_; have BK117 := n0_; have HB := n1_; clear n0_ n1_)); have hcz8_0 : w7.cell? ⟨gb117, 0, none⟩ = some (.int .i64 0) := (blk_cell BK117.out 0).trans rfl; have hcz8_1 : w7.cell? ⟨gb117, 1, none⟩ = some (.int .i64 0) := (blk_cell BK117.out 1).trans rfl; have hcz8_2 : w7.cell? ⟨gb117, 2, none⟩ = some (.int .i64 0) := (blk_cell BK117.out 2).trans rfl; have hcz8_3 : w7.cell? ⟨gb117, 3, none⟩ = some (.int .i64 0) := (blk_cell BK117.out 3).trans rfl; have hcz8_4 : w7.cell? ⟨gb117, 4, none⟩ = some (.int .i64 0) := (blk_cell BK117.out 4).trans rfl; have hcz8_5 : w7.cell? ⟨gb117, 5, none⟩ = some (.int .i64 0) := (blk_cell BK117.out 5).trans rfl; have hfz8_0 := blk_frozen BK117.out 0; have hfz8_1 := blk_frozen BK117.out 1; have hfz8_2 := blk_frozen BK117.out 2; have hfz8_3 := blk_frozen BK117.out 3; have hfz8_4 := blk_frozen BK117.out 4; have hfz8_5 := blk_frozen BK117.out 5))
    refine bodyPost_ret (results_ct rfl _ _ gb117 23 #[.int .i64 0, .int .i64 0, .int .i64 0, .int .i64 0, .int .i64 0, .int .i64 0] (0, 0) _ rfl (by (with_reducible repeat (first | refine blk_drewN ?_ _ | refine blk_drew ?_ | refine blk_alloc ?_ _)); refine blk_put (cs := #[.int .i64 0, .int .i64 0, .int .i64 0, .int .i64 0, .int .i64 0, .int .i64 0]) ?_ 5 _ rfl; (with_reducible repeat (first | refine blk_drewN ?_ _ | refine blk_drew ?_ | refine blk_alloc ?_ _)); refine blk_put (cs := #[.int .i64 0, .int .i64 0, .int .i64 0, .int .i64 0, .int .i64 0, .int .i64 0]) ?_ 4 _ rfl; (with_reducible repeat (first | refine blk_drewN ?_ _ | refine blk_drew ?_ | refine blk_alloc ?_ _)); refine blk_put (cs := #[.int .i64 0, .int .i64 0, .int .i64 0, .int .i64 0, .int .i64 0, .int .i64 0]) ?_ 3 _ rfl; (with_reducible repeat (first | refine blk_drewN ?_ _ | refine blk_drew ?_ | refine blk_alloc ?_ _)); refine blk_put (cs := #[.int .i64 0, .int .i64 0, .int .i64 t123, .int .i64 0, .int .i64 0, .int .i64 0]) ?_ 2 _ rfl; (with_reducible repeat (first | refine blk_drewN ?_ _ | refine blk_drew ?_ | refine blk_alloc ?_ _)); refine blk_put (cs := #[.int .i64 0, .int .i64 t122, .int .i64 t123, .int .i64 0, .int .i64 0, .int .i64 0]) ?_ 1 _ rfl; (with_reducible repeat (first | refine blk_drewN ?_ _ | refine blk_drew ?_ | refine blk_alloc ?_ _)); refine blk_put (cs := #[.int .i64 t121, .int .i64 t122, .int .i64 t123, .int .i64 0, .int .i64 0, .int .i64 0]) ?_ 0 _ rfl; (with_reducible repeat (first | refine blk_drewN ?_ _ | refine blk_drew ?_ | refine blk_alloc ?_ _)); refine blk_put (cs := #[.int .i64 t121, .int .i64 t122, .int .i64 0, .int .i64 0, .int .i64 0, .int .i64 0]) ?_ 2 _ rfl; (with_reducible repeat (first | refine blk_drewN ?_ _ | refine blk_drew ?_ | refine blk_alloc ?_ _)); refine blk_put (cs := #[.int .i64 t121, .int .i64 0, .int .i64 0, .int .i64 0, .int .i64 0, .int .i64 0]) ?_ 1 _ rfl; (with_reducible repeat (first | refine blk_drewN ?_ _ | refine blk_drew ?_ | refine blk_alloc ?_ _)); refine blk_put (cs := #[.int .i64 0, .int .i64 0, .int .i64 0, .int .i64 0, .int .i64 0, .int .i64 0]) ?_ 0 _ rfl; (with_reducible repeat (first | refine blk_drewN ?_ _ | refine blk_drew ?_ | refine blk_alloc ?_ _)); exact BK117.out) Tryd.underlying23 rfl (by kernel_rfl)) rfl ?_
    exact ⟨by first | rfl | (simp [errW_none, errW_some] <;> rfl) | (simp [*, errW_none, errW_some] <;> rfl), by repeat (first | (with_reducible first | exact HB.out | apply below_alloc | apply pw_below_drewN | apply below_drew1 | refine below_set ?_ GE117.out) | exact HB.out)⟩

/-! ### clock_list: function 24 -/
def clock_list.f (a0_0 : Int) (a0_1 : Int) (a0_2 : Int) (a0_3 : Int) (a0_4 : Int) (a0_5 : Int) : Option (List Int) := some (([a0_0, a0_1, a0_2, a0_3, a0_4, a0_5] : List Int))
set_option maxHeartbeats 8000000 in
set_option maxRecDepth 100000 in
theorem clock_list.calls (a0_0 : Int) (a0_1 : Int) (a0_2 : Int) (a0_3 : Int) (a0_4 : Int) (a0_5 : Int) (r : List Int) (w : World) (h : clock_list.f a0_0 a0_1 a0_2 a0_3 a0_4 a0_5 = some r) : Glob w →
    Calls Tryd.prog 24 #[.agg #[.int .i64 a0_0, .int .i64 a0_1, .int .i64 a0_2, .int .i64 a0_3, .int .i64 a0_4, .int .i64 a0_5]] w fun e w' => ∃ v0_ : Value, e = .returned (v0_) ∧ Kd.R (Kd.int .i64) 3 w' w.heap.size (fun _ => True) v0_ r ∧ Below w.heap.size w w' := by
  intro hG
  have hu23 := Tryd.underlying23
  have HB := Aside0.mk (Below.refl w.heap.size w)
  have H : (some (([a0_0, a0_1, a0_2, a0_3, a0_4, a0_5] : List Int))) = some r := h
  clear h
  obtain ⟨y126, hy126⟩ : ∃ y_ : List Int, y_ = (([a0_0, a0_1, a0_2, a0_3, a0_4, a0_5] : List Int)) := ⟨_, rfl⟩
  replace H : (some y126) = some r := by first | (rw [hy126]; with_reducible exact H) | (have H2_ := (Option.bind_some _ _).symm.trans H; rw [hy126]; with_reducible exact H2_) | (have H2_ := (Option.bind_some _ _).symm.trans H; with_reducible exact H2_) | with_reducible exact H | (rw [hy126]; exact H) | exact H
  have Ny126 := Aside0.mk hy126
  clear hy126
  obtain rfl := Option.some.inj H
  go_enter Tryd.func24, Tryd.ntmps24
  go_wp2_with (first | ((with_reducible refine gate_dst (N := 1) rfl ?_); refine box_event ?hg (N := 1) ?hd (cs := #[.int .i64 a0_0, .int .i64 a0_1, .int .i64 a0_2, .int .i64 a0_3, .int .i64 a0_4, .int .i64 a0_5]) (t := 23) ?hr ?_; (case hd => rfl); (case hg => rfl); (case hr => first | (go_simp; done) | (go_simp; rfl)); intro gb125 hg w2 hbox hb; have n0_ := Aside0.mk (below_step (by repeat (first | (with_reducible first | exact HB.out | apply below_alloc | apply pw_below_drewN | apply below_drew1) | exact HB.out)) hb); have n1_ := Aside0.mk (hbox); have n2_ := Aside0.mk ((by rw [hg]; exact (below_size (by repeat (first | (with_reducible first | exact HB.out | apply below_alloc | apply pw_below_drewN | apply below_drew1) | exact HB.out))) : w.heap.size ≤ gb125)); have n3_ := Aside0.mk ((by rw [hg]; exact (below_size (by repeat (first | (with_reducible first | exact HB.out | apply below_alloc | apply pw_below_drewN | apply below_drew1) | exact HB.out))) : w.heap.size ≤ gb125)); clear HB; have HB := n0_; have BK125 := n1_; have GW125 := n2_; have GE125 := n3_; clear n0_ n1_ n2_ n3_; clear hb hbox hg; have hcz3_0 : w2.cell? ⟨gb125, 0, none⟩ = some (.int .i64 a0_0) := (blk_cell BK125.out 0).trans rfl; have hcz3_1 : w2.cell? ⟨gb125, 1, none⟩ = some (.int .i64 a0_1) := (blk_cell BK125.out 1).trans rfl; have hcz3_2 : w2.cell? ⟨gb125, 2, none⟩ = some (.int .i64 a0_2) := (blk_cell BK125.out 2).trans rfl; have hcz3_3 : w2.cell? ⟨gb125, 3, none⟩ = some (.int .i64 a0_3) := (blk_cell BK125.out 3).trans rfl; have hcz3_4 : w2.cell? ⟨gb125, 4, none⟩ = some (.int .i64 a0_4) := (blk_cell BK125.out 4).trans rfl; have hcz3_5 : w2.cell? ⟨gb125, 5, none⟩ = some (.int .i64 a0_5) := (blk_cell BK125.out 5).trans rfl; have hfz3_0 := blk_frozen BK125.out 0; have hfz3_1 := blk_frozen BK125.out 1; have hfz3_2 := blk_frozen BK125.out 2; have hfz3_3 := blk_frozen BK125.out 3; have hfz3_4 := blk_frozen BK125.out 4; have hfz3_5 := blk_frozen BK125.out 5) | ((with_reducible refine gate_dst (N := 15) rfl ?_); refine Kd.R_lit (Kd.int .i64) _ 3 ?hg (N := 15) ?hd (xs := ([a0_0, a0_1, a0_2, a0_3, a0_4, a0_5] : List Int)) (inner := [.int .i64 a0_0, .int .i64 a0_1, .int .i64 a0_2, .int .i64 a0_3, .int .i64 a0_4, .int .i64 a0_5]) (ok := fun _ => True) (okp := fun _ => True) ?hr ?hp (fun _ hk => hk) trivial (Below.refl _ _) (Nat.le_refl _) (by simp) ?_; (case hd => rfl); (case hg => rfl); (case hr => first | (go_simp; done) | (go_simp; rfl)); (case hp => exact (Reps.one (show Kd.M (Kd.int .i64) _ _ _ a0_0 [.int .i64 a0_0] from rfl) (Reps.one (show Kd.M (Kd.int .i64) _ _ _ a0_1 [.int .i64 a0_1] from rfl) (Reps.one (show Kd.M (Kd.int .i64) _ _ _ a0_2 [.int .i64 a0_2] from rfl) (Reps.one (show Kd.M (Kd.int .i64) _ _ _ a0_3 [.int .i64 a0_3] from rfl) (Reps.one (show Kd.M (Kd.int .i64) _ _ _ a0_4 [.int .i64 a0_4] from rfl) (Reps.one (show Kd.M (Kd.int .i64) _ _ _ a0_5 [.int .i64 a0_5] from rfl) (Reps.none _ _)))))))); intro v127 w4 ho5 hb hg_ hnew_; clear hg_ hnew_; (first | rw [← Ny126.out] at ho5 | (simp only [Int.reduceToNat] at ho5; rw [← Ny126.out] at ho5)); have n0_ := Aside0.mk (Kd.R_lower ho5 (below_size (by repeat (first | (with_reducible first | exact HB.out | apply below_alloc | apply pw_below_drewN | apply below_drew1 | refine below_set ?_ GE125.out) | exact HB.out)))); have n1_ := Aside0.mk (blk_below (g := gb125) (o := .cells #[.int .i64 a0_0, .int .i64 a0_1, .int .i64 a0_2, .int .i64 a0_3, .int .i64 a0_4, .int .i64 a0_5] 23 (0, 0)) (by (with_reducible repeat (first | refine blk_drewN ?_ _ | refine blk_drew ?_ | refine blk_alloc ?_ _)); exact BK125.out) hb); have n2_ := Aside0.mk (below_step (by repeat (first | (with_reducible first | exact HB.out | apply below_alloc | apply pw_below_drewN | apply below_drew1 | refine below_set ?_ GE125.out) | exact HB.out)) hb); clear BK125; clear HB; have HO128 := n0_; have BK125 := n1_; have HB := n2_; clear n0_ n1_ n2_; clear hb ho5))
  go_ret
  exact ⟨_, by first | rfl | (simp [errW_none, errW_some] <;> rfl) | (simp [*, errW_none, errW_some] <;> rfl), by (with_reducible repeat (first | apply Kd.R_alloc | apply Kd.R_drewN | apply Kd.R_drew)); exact HO128.out, by repeat (first | (with_reducible first | exact HB.out | apply below_alloc | apply pw_below_drewN | apply below_drew1 | refine below_set ?_ GE125.out) | exact HB.out)⟩

/-! ### cmp_isNaN_int: function 52 -/
def cmp_isNaN_int.f (a0 : Int) : Option (Bool) := some (a0 != a0)
set_option maxHeartbeats 8000000 in
set_option maxRecDepth 100000 in
theorem cmp_isNaN_int.calls (a0 : Int) (r : Bool) (w : World) (h : cmp_isNaN_int.f a0 = some r) : Glob w →
    Calls Tryd.prog 52 #[.int .i64 a0] w fun e w' => e = .returned (.bool r) ∧ Drawn0 w w' := by
  intro hG
  have H : (some (a0 != a0)) = some r := h
  clear h
  obtain rfl := Option.some.inj H
  go_enter Tryd.func52, Tryd.ntmps52
  go_wp2
  go_ret
  exact ⟨by first | rfl | (simp; done) | (simp [*]; done), by repeat (first | exact Drawn0.refl _ | apply Drawn0.step)⟩

/-! ### cmp_Compare_int: function 43 -/
def cmp_Compare_int.f (a0 : Int) (a1 : Int) : Option (Int) := (cmp_isNaN_int.f a0).bind fun t129 => ((cmp_isNaN_int.f a1).bind fun t130 => (if t129 = true then (if t130 = true then (some 0) else (some (-1))) else (if t130 = true then (some 1) else (if a0 < a1 then (some (-1)) else (if a0 > a1 then (some 1) else (some 0))))))
set_option maxHeartbeats 8000000 in
set_option maxRecDepth 100000 in
theorem cmp_Compare_int.calls (a0 : Int) (a1 : Int) (r : Int) (w : World) (h : cmp_Compare_int.f a0 a1 = some r) : Glob w →
    Calls Tryd.prog 43 #[.int .i64 a0, .int .i64 a1] w fun e w' => e = .returned (.int .i64 r) ∧ Drawn0 w w' := by
  intro hG
  have H : ((cmp_isNaN_int.f a0).bind fun t129 => ((cmp_isNaN_int.f a1).bind fun t130 => (if t129 = true then (if t130 = true then (some 0) else (some (-1))) else (if t130 = true then (some 1) else (if a0 < a1 then (some (-1)) else (if a0 > a1 then (some 1) else (some 0))))))) = some r := h
  clear h
  replace H := Option.bind_eq_some_iff.mp H
  obtain ⟨t129, A30, H⟩ := H
  replace H : ((cmp_isNaN_int.f a1).bind fun t130 => (if t129 = true then (if t130 = true then (some 0) else (some (-1))) else (if t130 = true then (some 1) else (if a0 < a1 then (some (-1)) else (if a0 > a1 then (some 1) else (some 0)))))) = some r := H
  have A3 := Aside0.mk A30
  clear A30
  replace H := Option.bind_eq_some_iff.mp H
  obtain ⟨t130, A40, H⟩ := H
  replace H : (if t129 = true then (if t130 = true then (some 0) else (some (-1))) else (if t130 = true then (some 1) else (if a0 < a1 then (some (-1)) else (if a0 > a1 then (some 1) else (some 0))))) = some r := H
  have A4 := Aside0.mk A40
  clear A40
  by_cases c5 : t129 = true
  · subst c5
    have H1 : (if t130 = true then (some 0) else (some (-1))) = some r := by rw [if_pos rfl] at H; exact H
    clear H
    have H := H1
    clear H1
    by_cases c6 : t130 = true
    · subst c6
      have H1 : (some 0) = some r := by rw [if_pos rfl] at H; exact H
      clear H
      have H := H1
      clear H1
      obtain rfl := Option.some.inj H
      go_enter Tryd.func43, Tryd.ntmps43
      go_wp2_with (first | ((with_reducible refine gate_callee (f := 52) rfl ?_); refine goesL_ (some 8) rfl rfl Tryd.func52 (by kernel_rfl) rfl #[.int .i64 a0] rfl (by (try simp only [List.map_toArray, List.map_cons, List.map_nil]); first | done | rfl | (simp only [List.length_drop, List.length_take]; rfl)) ?_; (with_reducible refine (cmp_isNaN_int.calls a0 true _ A3.out (by first | exact hG | exact hG.drewN _ | exact (hG.drewN _).drewN _ | exact hG.below HB.out | exact hG.below (by repeat (first | (with_reducible first | exact HB.out | apply below_alloc | apply pw_below_drewN | apply below_drew1 | refine below_set ?_ (Aside0.out (by assumption))) | exact HB.out)))).mono ?_); rintro e w' ⟨rfl, ⟨nd, rfl⟩⟩; refine ⟨_, rfl, ?_⟩) | ((with_reducible refine gate_callee (f := 52) rfl ?_); refine goesL_ (some 10) rfl rfl Tryd.func52 (by kernel_rfl) rfl #[.int .i64 a1] rfl (by (try simp only [List.map_toArray, List.map_cons, List.map_nil]); first | done | rfl | (simp only [List.length_drop, List.length_take]; rfl)) ?_; (with_reducible refine (cmp_isNaN_int.calls a1 true _ A4.out (by first | exact hG | exact hG.drewN _ | exact (hG.drewN _).drewN _ | exact hG.below HB.out | exact hG.below (by repeat (first | (with_reducible first | exact HB.out | apply below_alloc | apply pw_below_drewN | apply below_drew1 | refine below_set ?_ (Aside0.out (by assumption))) | exact HB.out)))).mono ?_); rintro e w' ⟨rfl, ⟨nd, rfl⟩⟩; refine ⟨_, rfl, ?_⟩))
      go_ret
      exact ⟨by first | rfl | (simp; done) | (simp [*]; done), by repeat (first | exact Drawn0.refl _ | apply Drawn0.step)⟩
    · replace c6 := Bool.eq_false_iff.mpr c6
      subst c6
      have H1 : (some (-1)) = some r := by rw [if_neg (show ¬ (false = true) by decide)] at H; exact H
      clear H
      have H := H1
      clear H1
      obtain rfl := Option.some.inj H
      go_enter Tryd.func43, Tryd.ntmps43
      go_wp2_with (first | ((with_reducible refine gate_callee (f := 52) rfl ?_); refine goesL_ (some 8) rfl rfl Tryd.func52 (by kernel_rfl) rfl #[.int .i64 a0] rfl (by (try simp only [List.map_toArray, List.map_cons, List.map_nil]); first | done | rfl | (simp only [List.length_drop, List.length_take]; rfl)) ?_; (with_reducible refine (cmp_isNaN_int.calls a0 true _ A3.out (by first | exact hG | exact hG.drewN _ | exact (hG.drewN _).drewN _ | exact hG.below HB.out | exact hG.below (by repeat (first | (with_reducible first | exact HB.out | apply below_alloc | apply pw_below_drewN | apply below_drew1 | refine below_set ?_ (Aside0.out (by assumption))) | exact HB.out)))).mono ?_); rintro e w' ⟨rfl, ⟨nd, rfl⟩⟩; refine ⟨_, rfl, ?_⟩) | ((with_reducible refine gate_callee (f := 52) rfl ?_); refine goesL_ (some 10) rfl rfl Tryd.func52 (by kernel_rfl) rfl #[.int .i64 a1] rfl (by (try simp only [List.map_toArray, List.map_cons, List.map_nil]); first | done | rfl | (simp only [List.length_drop, List.length_take]; rfl)) ?_; (with_reducible refine (cmp_isNaN_int.calls a1 false _ A4.out (by first | exact hG | exact hG.drewN _ | exact (hG.drewN _).drewN _ | exact hG.below HB.out | exact hG.below (by repeat (first | (with_reducible first | exact HB.out | apply below_alloc | apply pw_below_drewN | apply below_drew1 | refine below_set ?_ (Aside0.out (by assumption))) | exact HB.out)))).mono ?_); rintro e w' ⟨rfl, ⟨nd, rfl⟩⟩; refine ⟨_, rfl, ?_⟩))
      go_ret
      exact ⟨by first | rfl | (simp; done) | (simp [*]; done), by repeat (first | exact Drawn0.refl _ | apply Drawn0.step)⟩
  · replace c5 := Bool.eq_false_iff.mpr c5
    subst c5
    have H1 : (if t130 = true then (some 1) else (if a0 < a1 then (some (-1)) else (if a0 > a1 then (some 1) else (some 0)))) = some r := by rw [if_neg (show ¬ (false = true) by decide)] at H; exact H
    clear H
    have H := H1
    clear H1
    by_cases c7 : t130 = true
    · subst c7
      have H1 : (some 1) = some r := by rw [if_pos rfl] at H; exact H
      clear H
      have H := H1
      clear H1
      obtain rfl := Option.some.inj H
      go_enter Tryd.func43, Tryd.ntmps43
      go_wp2_with (first | ((with_reducible refine gate_callee (f := 52) rfl ?_); refine goesL_ (some 8) rfl rfl Tryd.func52 (by kernel_rfl) rfl #[.int .i64 a0] rfl (by (try simp only [List.map_toArray, List.map_cons, List.map_nil]); first | done | rfl | (simp only [List.length_drop, List.length_take]; rfl)) ?_; (with_reducible refine (cmp_isNaN_int.calls a0 false _ A3.out (by first | exact hG | exact hG.drewN _ | exact (hG.drewN _).drewN _ | exact hG.below HB.out | exact hG.below (by repeat (first | (with_reducible first | exact HB.out | apply below_alloc | apply pw_below_drewN | apply below_drew1 | refine below_set ?_ (Aside0.out (by assumption))) | exact HB.out)))).mono ?_); rintro e w' ⟨rfl, ⟨nd, rfl⟩⟩; refine ⟨_, rfl, ?_⟩) | ((with_reducible refine gate_callee (f := 52) rfl ?_); refine goesL_ (some 10) rfl rfl Tryd.func52 (by kernel_rfl) rfl #[.int .i64 a1] rfl (by (try simp only [List.map_toArray, List.map_cons, List.map_nil]); first | done | rfl | (simp only [List.length_drop, List.length_take]; rfl)) ?_; (with_reducible refine (cmp_isNaN_int.calls a1 true _ A4.out (by first | exact hG | exact hG.drewN _ | exact (hG.drewN _).drewN _ | exact hG.below HB.out | exact hG.below (by repeat (first | (with_reducible first | exact HB.out | apply below_alloc | apply pw_below_drewN | apply below_drew1 | refine below_set ?_ (Aside0.out (by assumption))) | exact HB.out)))).mono ?_); rintro e w' ⟨rfl, ⟨nd, rfl⟩⟩; refine ⟨_, rfl, ?_⟩))
      go_ret
      exact ⟨by first | rfl | (simp; done) | (simp [*]; done), by repeat (first | exact Drawn0.refl _ | apply Drawn0.step)⟩
    · replace c7 := Bool.eq_false_iff.mpr c7
      subst c7
      have H1 : (if a0 < a1 then (some (-1)) else (if a0 > a1 then (some 1) else (some 0))) = some r := by rw [if_neg (show ¬ (false = true) by decide)] at H; exact H
      clear H
      have H := H1
      clear H1
      by_cases c8 : a0 < a1
      · rw [if_pos c8] at H
        have c8b0 : decide (a0 < a1) = true := decide_eq_true c8
        clear c8
        obtain rfl := Option.some.inj H
        go_enter Tryd.func43, Tryd.ntmps43
        go_wp2_with (first | ((with_reducible refine gate_callee (f := 52) rfl ?_); refine goesL_ (some 8) rfl rfl Tryd.func52 (by kernel_rfl) rfl #[.int .i64 a0] rfl (by (try simp only [List.map_toArray, List.map_cons, List.map_nil]); first | done | rfl | (simp only [List.length_drop, List.length_take]; rfl)) ?_; (with_reducible refine (cmp_isNaN_int.calls a0 false _ A3.out (by first | exact hG | exact hG.drewN _ | exact (hG.drewN _).drewN _ | exact hG.below HB.out | exact hG.below (by repeat (first | (with_reducible first | exact HB.out | apply below_alloc | apply pw_below_drewN | apply below_drew1 | refine below_set ?_ (Aside0.out (by assumption))) | exact HB.out)))).mono ?_); rintro e w' ⟨rfl, ⟨nd, rfl⟩⟩; refine ⟨_, rfl, ?_⟩) | ((with_reducible refine gate_callee (f := 52) rfl ?_); refine goesL_ (some 10) rfl rfl Tryd.func52 (by kernel_rfl) rfl #[.int .i64 a1] rfl (by (try simp only [List.map_toArray, List.map_cons, List.map_nil]); first | done | rfl | (simp only [List.length_drop, List.length_take]; rfl)) ?_; (with_reducible refine (cmp_isNaN_int.calls a1 false _ A4.out (by first | exact hG | exact hG.drewN _ | exact (hG.drewN _).drewN _ | exact hG.below HB.out | exact hG.below (by repeat (first | (with_reducible first | exact HB.out | apply below_alloc | apply pw_below_drewN | apply below_drew1 | refine below_set ?_ (Aside0.out (by assumption))) | exact HB.out)))).mono ?_); rintro e w' ⟨rfl, ⟨nd, rfl⟩⟩; refine ⟨_, rfl, ?_⟩))
        go_ret
        exact ⟨by first | rfl | (simp; done) | (simp [*]; done), by repeat (first | exact Drawn0.refl _ | apply Drawn0.step)⟩
      · rw [if_neg c8] at H
        have c8b0 : decide (a0 < a1) = false := decide_eq_false c8
        clear c8
        by_cases c9 : a0 > a1
        · rw [if_pos c9] at H
          have c9b0 : decide (a1 < a0) = true := decide_eq_true c9
          clear c9
          obtain rfl := Option.some.inj H
          go_enter Tryd.func43, Tryd.ntmps43
          go_wp2_with (first | ((with_reducible refine gate_callee (f := 52) rfl ?_); refine goesL_ (some 8) rfl rfl Tryd.func52 (by kernel_rfl) rfl #[.int .i64 a0] rfl (by (try simp only [List.map_toArray, List.map_cons, List.map_nil]); first | done | rfl | (simp only [List.length_drop, List.length_take]; rfl)) ?_; (with_reducible refine (cmp_isNaN_int.calls a0 false _ A3.out (by first | exact hG | exact hG.drewN _ | exact (hG.drewN _).drewN _ | exact hG.below HB.out | exact hG.below (by repeat (first | (with_reducible first | exact HB.out | apply below_alloc | apply pw_below_drewN | apply below_drew1 | refine below_set ?_ (Aside0.out (by assumption))) | exact HB.out)))).mono ?_); rintro e w' ⟨rfl, ⟨nd, rfl⟩⟩; refine ⟨_, rfl, ?_⟩) | ((with_reducible refine gate_callee (f := 52) rfl ?_); refine goesL_ (some 10) rfl rfl Tryd.func52 (by kernel_rfl) rfl #[.int .i64 a1] rfl (by (try simp only [List.map_toArray, List.map_cons, List.map_nil]); first | done | rfl | (simp only [List.length_drop, List.length_take]; rfl)) ?_; (with_reducible refine (cmp_isNaN_int.calls a1 false _ A4.out (by first | exact hG | exact hG.drewN _ | exact (hG.drewN _).drewN _ | exact hG.below HB.out | exact hG.below (by repeat (first | (with_reducible first | exact HB.out | apply below_alloc | apply pw_below_drewN | apply below_drew1 | refine below_set ?_ (Aside0.out (by assumption))) | exact HB.out)))).mono ?_); rintro e w' ⟨rfl, ⟨nd, rfl⟩⟩; refine ⟨_, rfl, ?_⟩))
          go_ret
          exact ⟨by first | rfl | (simp; done) | (simp [*]; done), by repeat (first | exact Drawn0.refl _ | apply Drawn0.step)⟩
        · rw [if_neg c9] at H
          have c9b0 : decide (a1 < a0) = false := decide_eq_false c9
          clear c9
          obtain rfl := Option.some.inj H
          go_enter Tryd.func43, Tryd.ntmps43
          go_wp2_with (first | ((with_reducible refine gate_callee (f := 52) rfl ?_); refine goesL_ (some 8) rfl rfl Tryd.func52 (by kernel_rfl) rfl #[.int .i64 a0] rfl (by (try simp only [List.map_toArray, List.map_cons, List.map_nil]); first | done | rfl | (simp only [List.length_drop, List.length_take]; rfl)) ?_; (with_reducible refine (cmp_isNaN_int.calls a0 false _ A3.out (by first | exact hG | exact hG.drewN _ | exact (hG.drewN _).drewN _ | exact hG.below HB.out | exact hG.below (by repeat (first | (with_reducible first | exact HB.out | apply below_alloc | apply pw_below_drewN | apply below_drew1 | refine below_set ?_ (Aside0.out (by assumption))) | exact HB.out)))).mono ?_); rintro e w' ⟨rfl, ⟨nd, rfl⟩⟩; refine ⟨_, rfl, ?_⟩) | ((with_reducible refine gate_callee (f := 52) rfl ?_); refine goesL_ (some 10) rfl rfl Tryd.func52 (by kernel_rfl) rfl #[.int .i64 a1] rfl (by (try simp only [List.map_toArray, List.map_cons, List.map_nil]); first | done | rfl | (simp only [List.length_drop, List.length_take]; rfl)) ?_; (with_reducible refine (cmp_isNaN_int.calls a1 false _ A4.out (by first | exact hG | exact hG.drewN _ | exact (hG.drewN _).drewN _ | exact hG.below HB.out | exact hG.below (by repeat (first | (with_reducible first | exact HB.out | apply below_alloc | apply pw_below_drewN | apply below_drew1 | refine below_set ?_ (Aside0.out (by assumption))) | exact HB.out)))).mono ?_); rintro e w' ⟨rfl, ⟨nd, rfl⟩⟩; refine ⟨_, rfl, ?_⟩))
          go_ret
          exact ⟨by first | rfl | (simp; done) | (simp [*]; done), by repeat (first | exact Drawn0.refl _ | apply Drawn0.step)⟩

/-! ### slices_Compare_int_int: function 34 -/
def slices_Compare_int_int.l0 : Nat → List Int → List Int → List Int → Int → Int → Option (Int)
  | 0, _, _, _, _, _ => none
  | k + 1, x0, x1, x9, x10, x11 => if x11 < x10 then (if 0 ≤ x11 then (if x11 < (x9.length : Int) then (if x11 ≥ (x1.length : Int) then (some 1) else (if x11 < (x1.length : Int) then ((cmp_Compare_int.f (rd x9 x11) (rd x1 x11)).bind fun t133 => (if t133 = 0 then (slices_Compare_int_int.l0 k x0 x1 x9 x10 (wrap64 (x11 + 1))) else (some t133))) else (none))) else (none)) else (none)) else (if (x0.length : Int) < (x1.length : Int) then (some (-1)) else (some 0))
def slices_Compare_int_int.f (k : Nat) (l0 : List Int) (l1 : List Int) : Option (Int) := slices_Compare_int_int.l0 k l0 l1 l0 (l0.length : Int) 0
theorem slices_Compare_int_int.mono_l : ∀ k, (∀ y0 y1 y2 y3 y4, LeO (slices_Compare_int_int.l0 k y0 y1 y2 y3 y4) (slices_Compare_int_int.l0 (k + 1) y0 y1 y2 y3 y4))
  | 0 => fun _ _ _ _ _ r h => by simp [slices_Compare_int_int.l0] at h
  | k + 1 => by
    have ih0 := slices_Compare_int_int.mono_l k
    · intro y0 y1 y2 y3 y4
      unfold slices_Compare_int_int.l0
      repeat' first
      | (with_reducible exact ih0 _ _ _ _ _)
      | (with_reducible exact LeO.refl _)
      | (with_reducible exact LeO.none _)
      | (with_reducible refine LeO.ite ?_ ?_)
      | (with_reducible refine LeO.bind ?_ (fun _ => ?_))
      | exact ih0 _ _ _ _ _
      | exact LeO.none _
      | refine LeO.ite ?_ ?_
      | refine LeO.bind ?_ (fun _ => ?_)
theorem slices_Compare_int_int.mono : ∀ a0 a1 k, LeO (slices_Compare_int_int.f k a0 a1) (slices_Compare_int_int.f (k + 1) a0 a1) := by
  intro a0 a1 k
  have ih0 := slices_Compare_int_int.mono_l k
  unfold slices_Compare_int_int.f
  repeat' first
      | (with_reducible exact ih0 _ _ _ _ _)
      | (with_reducible exact LeO.refl _)
      | (with_reducible exact LeO.none _)
      | (with_reducible refine LeO.ite ?_ ?_)
      | (with_reducible refine LeO.bind ?_ (fun _ => ?_))
      | exact ih0 _ _ _ _ _
      | exact LeO.none _
      | refine LeO.ite ?_ ?_
      | refine LeO.bind ?_ (fun _ => ?_)
set_option maxHeartbeats 8000000 in
set_option maxRecDepth 100000 in
theorem slices_Compare_int_int.calls (k : Nat) (A0 : Option Addr) (c0 : Nat) (l0 : List Int) (A1 : Option Addr) (c1 : Nat) (l1 : List Int) (r : Int) (w : World) (hr0 : Kd.C (Kd.int .i64) w A0 l0.length l0) (hc0 : l0.length ≤ c0) (hr1 : Kd.C (Kd.int .i64) w A1 l1.length l1) (hc1 : l1.length ≤ c1) (h : slices_Compare_int_int.f k l0 l1 = some r) : Glob w →
    Calls Tryd.prog 34 #[.slice A0 l0.length c0, .slice A1 l1.length c1] w fun e w' => e = .returned (.int .i64 r) ∧ Drawn0 w w' := by
  intro hG
  have HR0 := Aside0.mk hr0
  have HC0 := Aside0.mk hc0
  clear hr0 hc0
  have HR1 := Aside0.mk hr1
  have HC1 := Aside0.mk hc1
  clear hr1 hc1
  have H : (slices_Compare_int_int.l0 k l0 l1 l0 (l0.length : Int) 0) = some r := h
  clear h
  have H' := Aside0.mk H
  clear H
  go_enter Tryd.func34, Tryd.ntmps34
  go_wp2
  go_loopg [11] k (fun kq v11 w' => ∃ (x11_1 : Int), v11 = .int .i64 x11_1 ∧ Aside0 (slices_Compare_int_int.l0 kq l0 l1 l0 (l0.length : Int) x11_1 = some r) ∧ Aside0 (kq ≤ k) ∧ Drawn0 w w')
  case atStart => exact ⟨(0), (by first | rfl | (simp; done) | (simp [*]; done)), H', ⟨Nat.le_refl _⟩, by repeat (first | exact Drawn0.refl _ | apply Drawn0.step)⟩
  case round =>
    clear H'
    try clear c1
    try clear p2
    obtain ⟨x11_1, rfl, HA, HK1, ⟨m1, rfl⟩⟩ := hrel
    cases gk with
    | zero => exact absurd HA.out (by simp [slices_Compare_int_int.l0])
    | succ k1 =>
      have H := HA.out
      clear HA
      simp only [slices_Compare_int_int.l0] at H
      by_cases c3 : x11_1 < (l0.length : Int)
      · rw [if_pos c3] at H
        have c3b0 : decide (x11_1 < (l0.length : Int)) = true := decide_eq_true c3
        clear c3
        by_cases c4 : 0 ≤ x11_1
        · rw [if_pos c4] at H
          have c4b0 : decide (0 ≤ x11_1) = true := decide_eq_true c4
          clear c4
          by_cases c5 : x11_1 < (l0.length : Int)
          · rw [if_pos c5] at H
            have c5b0 : decide (x11_1 < (l0.length : Int)) = true := decide_eq_true c5
            clear c5
            by_cases c6 : x11_1 ≥ (l1.length : Int)
            · rw [if_pos c6] at H
              have c6b0 : decide ((l1.length : Int) ≤ x11_1) = true := decide_eq_true c6
              clear c6
              obtain rfl := Option.some.inj H
              have p131 : 0 ≤ (x11_1 : Int) := of_decide_eq_true (by first | (with_reducible assumption) | assumption)
              have q131 : x11_1 < (l0.length : Int) := of_decide_eq_true (by first | (with_reducible assumption) | assumption)
              obtain ⟨ad131, e131, hx131_0⟩ := Kd.at_int HR0.out x11_1 p131 q131
              cases e131
              replace p131 := eq_true p131
              replace q131 := eq_true q131
              go_wp2
              go_ret
              exact ⟨by first | rfl | (simp; done) | (simp [*]; done), by repeat (first | exact Drawn0.refl _ | apply Drawn0.step)⟩
            · rw [if_neg c6] at H
              have c6b0 : decide ((l1.length : Int) ≤ x11_1) = false := decide_eq_false c6
              clear c6
              by_cases c7 : x11_1 < (l1.length : Int)
              · rw [if_pos c7] at H
                have c7b0 : decide (x11_1 < (l1.length : Int)) = true := decide_eq_true c7
                clear c7
                replace H := Option.bind_eq_some_iff.mp H
                obtain ⟨t133, A80, H⟩ := H
                replace H : (if t133 = 0 then (slices_Compare_int_int.l0 k1 l0 l1 l0 (l0.length : Int) (wrap64 (x11_1 + 1))) else (some t133)) = some r := H
                have A8 := Aside0.mk A80
                clear A80
                by_cases c9 : t133 = 0
                · rw [if_pos c9] at H
                  have c9b0 : (t133 == 0) = true := beq_iff_eq.mpr c9
                  have c9b1 : (t133 != 0) = false := bne_eq_false_iff_eq.mpr c9
                  clear c9
                  have H' := Aside0.mk H
                  clear H
                  have p131 : 0 ≤ (x11_1 : Int) := of_decide_eq_true (by first | (with_reducible assumption) | assumption)
                  have q131 : x11_1 < (l0.length : Int) := of_decide_eq_true (by first | (with_reducible assumption) | assumption)
                  obtain ⟨ad131, e131, hx131_0⟩ := Kd.at_int HR0.out x11_1 p131 q131
                  cases e131
                  replace p131 := eq_true p131
                  replace q131 := eq_true q131
                  have p132 : 0 ≤ (x11_1 : Int) := of_decide_eq_true (by first | (with_reducible assumption) | assumption)
                  have q132 : x11_1 < (l1.length : Int) := of_decide_eq_true (by first | (with_reducible assumption) | assumption)
                  obtain ⟨ad132, e132, hx132_0⟩ := Kd.at_int HR1.out x11_1 p132 q132
                  cases e132
                  replace p132 := eq_true p132
                  replace q132 := eq_true q132
                  go_wp2_with (first | ((with_reducible refine gate_callee (f := 43) rfl ?_); refine goesL_ (some 26) rfl rfl Tryd.func43 (by kernel_rfl) rfl #[.int .i64 (rd l0 x11_1), .int .i64 (rd l1 x11_1)] rfl (by (try simp only [List.map_toArray, List.map_cons, List.map_nil]); first | done | rfl | (simp only [List.length_drop, List.length_take]; rfl)) ?_; (with_reducible refine (cmp_Compare_int.calls (rd l0 x11_1) (rd l1 x11_1) t133 _ A8.out (by first | exact hG | exact hG.drewN _ | exact (hG.drewN _).drewN _ | exact hG.below HB.out | exact hG.below (by repeat (first | (with_reducible first | exact HB.out | apply below_alloc | apply pw_below_drewN | apply below_drew1 | refine below_set ?_ (Aside0.out (by assumption))) | exact HB.out)))).mono ?_); rintro e w' ⟨rfl, ⟨nd, rfl⟩⟩; refine ⟨_, rfl, ?_⟩))
                  go_roundg k1
                  case measure => have := HK1.out; omega
                  case rel => exact ⟨(wrap64 (x11_1 + 1)), (by first | rfl | (simp; done) | (simp [*]; done)), H', ⟨by have := HK1.out; omega⟩, by repeat (first | exact Drawn0.refl _ | apply Drawn0.step)⟩
                · rw [if_neg c9] at H
                  have c9b0 : (t133 == 0) = false := beq_eq_false_iff_ne.mpr c9
                  have c9b1 : (t133 != 0) = true := bne_iff_ne.mpr c9
                  obtain rfl := Option.some.inj H
                  have p131 : 0 ≤ (x11_1 : Int) := of_decide_eq_true (by first | (with_reducible assumption) | assumption)
                  have q131 : x11_1 < (l0.length : Int) := of_decide_eq_true (by first | (with_reducible assumption) | assumption)
                  obtain ⟨ad131, e131, hx131_0⟩ := Kd.at_int HR0.out x11_1 p131 q131
                  cases e131
                  replace p131 := eq_true p131
                  replace q131 := eq_true q131
                  have p132 : 0 ≤ (x11_1 : Int) := of_decide_eq_true (by first | (with_reducible assumption) | assumption)
                  have q132 : x11_1 < (l1.length : Int) := of_decide_eq_true (by first | (with_reducible assumption) | assumption)
                  obtain ⟨ad132, e132, hx132_0⟩ := Kd.at_int HR1.out x11_1 p132 q132
                  cases e132
                  replace p132 := eq_true p132
                  replace q132 := eq_true q132
                  go_wp2_with (first | ((with_reducible refine gate_callee (f := 43) rfl ?_); refine goesL_ (some 26) rfl rfl Tryd.func43 (by kernel_rfl) rfl #[.int .i64 (rd l0 x11_1), .int .i64 (rd l1 x11_1)] rfl (by (try simp only [List.map_toArray, List.map_cons, List.map_nil]); first | done | rfl | (simp only [List.length_drop, List.length_take]; rfl)) ?_; (with_reducible refine (cmp_Compare_int.calls (rd l0 x11_1) (rd l1 x11_1) t133 _ A8.out (by first | exact hG | exact hG.drewN _ | exact (hG.drewN _).drewN _ | exact hG.below HB.out | exact hG.below (by repeat (first | (with_reducible first | exact HB.out | apply below_alloc | apply pw_below_drewN | apply below_drew1 | refine below_set ?_ (Aside0.out (by assumption))) | exact HB.out)))).mono ?_); rintro e w' ⟨rfl, ⟨nd, rfl⟩⟩; refine ⟨_, rfl, ?_⟩))
                  go_ret
                  exact ⟨by first | rfl | (simp; done) | (simp [*]; done), by repeat (first | exact Drawn0.refl _ | apply Drawn0.step)⟩
              · rw [if_neg c7] at H
                exact absurd H (by simp)
          · rw [if_neg c5] at H
            exact absurd H (by simp)
        · rw [if_neg c4] at H
          exact absurd H (by simp)
      · rw [if_neg c3] at H
        have c3b0 : decide (x11_1 < (l0.length : Int)) = false := decide_eq_false c3
        clear c3
        by_cases c10 : (l0.length : Int) < (l1.length : Int)
        · rw [if_pos c10] at H
          have c10b0 : decide ((l0.length : Int) < (l1.length : Int)) = true := decide_eq_true c10
          have c10b1 : decide (l0.length < l1.length) = true := decide_eq_true (Int.ofNat_lt.mp c10)
          clear c10
          obtain rfl := Option.some.inj H
          go_wp2
          go_ret
          exact ⟨by first | rfl | (simp; done) | (simp [*]; done), by repeat (first | exact Drawn0.refl _ | apply Drawn0.step)⟩
        · rw [if_neg c10] at H
          have c10b0 : decide ((l0.length : Int) < (l1.length : Int)) = false := decide_eq_false c10
          have c10b1 : decide (l0.length < l1.length) = false := decide_eq_false (fun h => c10 (Int.ofNat_lt.mpr h))
          clear c10
          obtain rfl := Option.some.inj H
          go_wp2
          go_ret
          exact ⟨by first | rfl | (simp; done) | (simp [*]; done), by repeat (first | exact Drawn0.refl _ | apply Drawn0.step)⟩

/-! ### clock_Compare: function 20 -/
def clock_Compare.f (k : Nat) (a0_0 : Int) (a0_1 : Int) (a0_2 : Int) (a0_3 : Int) (a0_4 : Int) (a0_5 : Int) (a1_0 : Int) (a1_1 : Int) (a1_2 : Int) (a1_3 : Int) (a1_4 : Int) (a1_5 : Int) : Option (Int) := (clock_list.f a0_0 a0_1 a0_2 a0_3 a0_4 a0_5).bind fun t136 => ((clock_list.f a1_0 a1_1 a1_2 a1_3 a1_4 a1_5).bind fun t139 => ((slices_Compare_int_int.f k t136 t139).bind fun t142 => (some t142)))
theorem clock_Compare.mono : ∀ a0 a1 a2 a3 a4 a5 a6 a7 a8 a9 a10 a11 k, LeO (clock_Compare.f k a0 a1 a2 a3 a4 a5 a6 a7 a8 a9 a10 a11) (clock_Compare.f (k + 1) a0 a1 a2 a3 a4 a5 a6 a7 a8 a9 a10 a11) := by
  intro a0 a1 a2 a3 a4 a5 a6 a7 a8 a9 a10 a11 k
  unfold clock_Compare.f
  repeat' first
      | (with_reducible exact slices_Compare_int_int.mono _ _ _)
      | (with_reducible exact LeO.refl _)
      | (with_reducible exact LeO.none _)
      | (with_reducible refine LeO.ite ?_ ?_)
      | (with_reducible refine LeO.bind ?_ (fun _ => ?_))
      | exact slices_Compare_int_int.mono _ _ _
      | exact LeO.none _
      | refine LeO.ite ?_ ?_
      | refine LeO.bind ?_ (fun _ => ?_)
set_option maxHeartbeats 8000000 in
set_option maxRecDepth 100000 in
theorem clock_Compare.calls (k : Nat) (a0_0 : Int) (a0_1 : Int) (a0_2 : Int) (a0_3 : Int) (a0_4 : Int) (a0_5 : Int) (a1_0 : Int) (a1_1 : Int) (a1_2 : Int) (a1_3 : Int) (a1_4 : Int) (a1_5 : Int) (r : Int) (w : World) (h : clock_Compare.f k a0_0 a0_1 a0_2 a0_3 a0_4 a0_5 a1_0 a1_1 a1_2 a1_3 a1_4 a1_5 = some r) : Glob w →
    Calls Tryd.prog 20 #[.agg #[.int .i64 a0_0, .int .i64 a0_1, .int .i64 a0_2, .int .i64 a0_3, .int .i64 a0_4, .int .i64 a0_5], .agg #[.int .i64 a1_0, .int .i64 a1_1, .int .i64 a1_2, .int .i64 a1_3, .int .i64 a1_4, .int .i64 a1_5]] w fun e w' => e = .returned (.int .i64 r) ∧ Below w.heap.size w w' := by
  intro hG
  have hu23 := Tryd.underlying23
  have HB := Aside0.mk (Below.refl w.heap.size w)
  have H : ((clock_list.f a0_0 a0_1 a0_2 a0_3 a0_4 a0_5).bind fun t136 => ((clock_list.f a1_0 a1_1 a1_2 a1_3 a1_4 a1_5).bind fun t139 => ((slices_Compare_int_int.f k t136 t139).bind fun t142 => (some t142)))) = some r := h
  clear h
  replace H := Option.bind_eq_some_iff.mp H
  obtain ⟨t136, A30, H⟩ := H
  replace H : ((clock_list.f a1_0 a1_1 a1_2 a1_3 a1_4 a1_5).bind fun t139 => ((slices_Compare_int_int.f k t136 t139).bind fun t142 => (some t142))) = some r := H
  have A3 := Aside0.mk A30
  clear A30
  replace H := Option.bind_eq_some_iff.mp H
  obtain ⟨t139, A40, H⟩ := H
  replace H : ((slices_Compare_int_int.f k t136 t139).bind fun t142 => (some t142)) = some r := H
  have A4 := Aside0.mk A40
  clear A40
  replace H := Option.bind_eq_some_iff.mp H
  obtain ⟨t142, A50, H⟩ := H
  replace H : (some t142) = some r := H
  have A5 := Aside0.mk A50
  clear A50
  obtain rfl := Option.some.inj H
  go_enter Tryd.func20, Tryd.ntmps20
  try go_wp2_with (first | ((with_reducible refine gate_dst (N := 2) rfl ?_); refine box_event ?hg (N := 2) ?hd (cs := #[.int .i64 a0_0, .int .i64 a0_1, .int .i64 a0_2, .int .i64 a0_3, .int .i64 a0_4, .int .i64 a0_5]) (t := 23) ?hr ?_; (case hd => rfl); (case hg => rfl); (case hr => first | (go_simp; done) | (go_simp; rfl)); intro gb134 hg w6 hbox hb; have n0_ := Aside0.mk (below_step (by repeat (first | (with_reducible first | exact HB.out | apply below_alloc | apply pw_below_drewN | apply below_drew1) | exact HB.out)) hb); have n1_ := Aside0.mk (hbox); have n2_ := Aside0.mk ((by rw [hg]; exact (below_size (by repeat (first | (with_reducible first | exact HB.out | apply below_alloc | apply pw_below_drewN | apply below_drew1) | exact HB.out))) : w.heap.size ≤ gb134)); have n3_ := Aside0.mk ((by rw [hg]; exact (below_size (by repeat (first | (with_reducible first | exact HB.out | apply below_alloc | apply pw_below_drewN | apply below_drew1) | exact HB.out))) : w.heap.size ≤ gb134)); clear HB; have HB := n0_; have BK134 := n1_; have GW134 := n2_; have GE134 := n3_; clear n0_ n1_ n2_ n3_; clear hb hbox hg) | ((with_reducible refine gate_dst (N := 3) rfl ?_); refine box_event ?hg (N := 3) ?hd (cs := #[.int .i64 a1_0, .int .i64 a1_1, .int .i64 a1_2, .int .i64 a1_3, .int .i64 a1_4, .int .i64 a1_5]) (t := 23) ?hr ?_; (case hd => rfl); (case hg => rfl); (case hr => first | (go_simp; done) | (go_simp; rfl)); intro gb135 hg w7 hbox hb; have n0_ := Aside0.mk (blk_below (g := gb134) (o := .cells #[.int .i64 a0_0, .int .i64 a0_1, .int .i64 a0_2, .int .i64 a0_3, .int .i64 a0_4, .int .i64 a0_5] 23 (0, 0)) (by (with_reducible repeat (first | refine blk_drewN ?_ _ | refine blk_drew ?_ | refine blk_alloc ?_ _)); exact BK134.out) hb); have n1_ := Aside0.mk (below_step (by repeat (first | (with_reducible first | exact HB.out | apply below_alloc | apply pw_below_drewN | apply below_drew1 | refine below_set ?_ GE134.out) | exact HB.out)) hb); have n2_ := Aside0.mk (hbox); have n3_ := Aside0.mk ((by rw [hg]; exact (below_size (by repeat (first | (with_reducible first | exact HB.out | apply below_alloc | apply pw_below_drewN | apply below_drew1 | refine below_set ?_ GE134.out) | exact HB.out))) : w.heap.size ≤ gb135)); have n4_ := Aside0.mk ((by rw [hg]; exact (below_size (by repeat (first | (with_reducible first | exact HB.out | apply below_alloc | apply pw_below_drewN | apply below_drew1 | refine below_set ?_ GE134.out) | exact HB.out))) : w.heap.size ≤ gb135)); have n5_ := Aside0.mk ((by rw [hg]; exact Nat.ne_of_lt (blk_lt (g := gb134) (o := .cells #[.int .i64 a0_0, .int .i64 a0_1, .int .i64 a0_2, .int .i64 a0_3, .int .i64 a0_4, .int .i64 a0_5] 23 (0, 0)) (by (with_reducible repeat (first | refine blk_drewN ?_ _ | refine blk_drew ?_ | refine blk_alloc ?_ _)); exact BK134.out)) : gb134 ≠ gb135)); have n6_ := Aside0.mk ((by rw [hg]; exact Nat.ne_of_gt (blk_lt (g := gb134) (o := .cells #[.int .i64 a0_0, .int .i64 a0_1, .int .i64 a0_2, .int .i64 a0_3, .int .i64 a0_4, .int .i64 a0_5] 23 (0, 0)) (by (with_reducible repeat (first | refine blk_drewN ?_ _ | refine blk_drew ?_ | refine blk_alloc ?_ _)); exact BK134.out)) : gb135 ≠ gb134)); clear BK134; clear HB; have BK134 := n0_; have HB := n1_; have BK135 := n2_; have GW135 := n3_; have GE135 := n4_; have NB134_135 := n5_; have NB135_134 := n6_; clear n0_ n1_ n2_ n3_ n4_ n5_ n6_; clear hb hbox hg))
  have n0_ := Aside0.mk (blk_drew BK134.out)
  have n1_ := Aside0.mk (blk_drew BK135.out)
  have n2_ := Aside0.mk (below_drew1 HB.out)
  clear BK134
  clear BK135
  clear HB
  have BK134 := n0_
  have BK135 := n1_
  have HB := n2_
  clear n0_ n1_ n2_
  refine start_ (n := 6) (S := fun w' => w'.cell? ⟨gb134, 0, none⟩ = some (.int .i64 a0_0) ∧ w'.cell? ⟨gb134, 1, none⟩ = some (.int .i64 a0_1) ∧ w'.cell? ⟨gb134, 2, none⟩ = some (.int .i64 a0_2) ∧ w'.cell? ⟨gb134, 3, none⟩ = some (.int .i64 a0_3) ∧ w'.cell? ⟨gb134, 4, none⟩ = some (.int .i64 a0_4) ∧ w'.cell? ⟨gb134, 5, none⟩ = some (.int .i64 a0_5) ∧ w'.cell? ⟨gb135, 0, none⟩ = some (.int .i64 a1_0) ∧ w'.cell? ⟨gb135, 1, none⟩ = some (.int .i64 a1_1) ∧ w'.cell? ⟨gb135, 2, none⟩ = some (.int .i64 a1_2) ∧ w'.cell? ⟨gb135, 3, none⟩ = some (.int .i64 a1_3) ∧ w'.cell? ⟨gb135, 4, none⟩ = some (.int .i64 a1_4) ∧ w'.cell? ⟨gb135, 5, none⟩ = some (.int .i64 a1_5)) (ds := []) #[false, false, false, false, false, false] (by kernel_rfl) rfl rfl ⟨(blk_cell BK134.out 0).trans rfl, (blk_cell BK134.out 1).trans rfl, (blk_cell BK134.out 2).trans rfl, (blk_cell BK134.out 3).trans rfl, (blk_cell BK134.out 4).trans rfl, (blk_cell BK134.out 5).trans rfl, (blk_cell BK135.out 0).trans rfl, (blk_cell BK135.out 1).trans rfl, (blk_cell BK135.out 2).trans rfl, (blk_cell BK135.out 3).trans rfl, (blk_cell BK135.out 4).trans rfl, (blk_cell BK135.out 5).trans rfl⟩ (fun hHeld => ?_)
  generalize w7.drew = w8 at BK134 BK135 HB hHeld ⊢
  refine take_ (i := 0) (N := some 5) (v := ?_) (a' := ?_) #[true, false, false, false, false, false] rfl rfl (by kernel_rfl) (fun _ _ _ h => h) (Or.inl ⟨by rfl, ?_⟩) hHeld ?_ ?_
  rotate_left
  · rintro w' ⟨s0, s1, s2, s3, s4, s5, s6, s7, s8, s9, s10, s11⟩
    go_simp
    with_reducible rfl
  rotate_left
  · simp only [Act.put, List.setIfInBounds_toArray, List.set_cons_zero, List.set_cons_succ, i64_w, i32_w]
    rfl
  refine take_ (i := 2) (N := some 7) (v := ?_) (a' := ?_) #[true, false, true, false, false, false] rfl rfl (by kernel_rfl) (fun _ _ _ h => h) (Or.inl ⟨by rfl, ?_⟩) hHeld ?_ ?_
  rotate_left
  · rintro w' ⟨s0, s1, s2, s3, s4, s5, s6, s7, s8, s9, s10, s11⟩
    go_simp
    with_reducible rfl
  rotate_left
  · simp only [Act.put, List.setIfInBounds_toArray, List.set_cons_zero, List.set_cons_succ, i64_w, i32_w]
    rfl
  refine one_ (i := 1) (N := some 6) #[true, true, true, false, false, false] rfl rfl (by kernel_rfl) (by decide) (fun K hK => ?_)
  refine goes_ Tryd.func24 (by kernel_rfl) rfl #[.agg #[.int .i64 a0_0, .int .i64 a0_1, .int .i64 a0_2, .int .i64 a0_3, .int .i64 a0_4, .int .i64 a0_5]] (by rfl) rfl rfl (by (try simp only [List.map_toArray, List.map_cons, List.map_nil]); first | done | rfl | (simp only [List.length_drop, List.length_take]; rfl)) ?_
  with_reducible refine (clock_list.calls a0_0 a0_1 a0_2 a0_3 a0_4 a0_5 t136 _ A3.out (by first | exact hG | exact hG.drewN _ | exact (hG.drewN _).drewN _ | exact hG.below HB.out | exact hG.below (by repeat (first | (with_reducible first | exact HB.out | apply below_alloc | apply pw_below_drewN | apply below_drew1 | refine below_set ?_ (Aside0.out (by assumption))) | exact HB.out)))).mono ?_
  rintro e w9 ⟨v137, rfl, ho0, hb⟩
  refine ⟨_, rfl, ?_⟩
  have n0_ := Aside0.mk (Kd.R_lower ho0 (below_size (by repeat (first | (with_reducible first | exact HB.out | apply below_alloc | apply pw_below_drewN | apply below_drew1 | refine below_set ?_ GE134.out | refine below_set ?_ GE135.out) | exact HB.out))))
  have n1_ := Aside0.mk (blk_below (g := gb134) (o := .cells #[.int .i64 a0_0, .int .i64 a0_1, .int .i64 a0_2, .int .i64 a0_3, .int .i64 a0_4, .int .i64 a0_5] 23 (0, 0)) (by (with_reducible repeat (first | refine blk_drewN ?_ _ | refine blk_drew ?_ | refine blk_alloc ?_ _)); exact BK134.out) hb)
  have n2_ := Aside0.mk (blk_below (g := gb135) (o := .cells #[.int .i64 a1_0, .int .i64 a1_1, .int .i64 a1_2, .int .i64 a1_3, .int .i64 a1_4, .int .i64 a1_5] 23 (0, 0)) (by (with_reducible repeat (first | refine blk_drewN ?_ _ | refine blk_drew ?_ | refine blk_alloc ?_ _)); exact BK135.out) hb)
  have n3_ := Aside0.mk (below_step (by repeat (first | (with_reducible first | exact HB.out | apply below_alloc | apply pw_below_drewN | apply below_drew1 | refine below_set ?_ GE134.out | refine below_set ?_ GE135.out) | exact HB.out)) hb)
  clear BK134
  clear BK135
  clear HB
  have HO138 := n0_
  have BK134 := n1_
  have BK135 := n2_
  have HB := n3_
  clear n0_ n1_ n2_ n3_
  (try clear hb)
  (try clear hb2)
  (try clear hk)
  (try clear hi)
  (try clear ho0)
  refine hK.out _ _ ⟨(blk_cell BK134.out 0).trans rfl, (blk_cell BK134.out 1).trans rfl, (blk_cell BK134.out 2).trans rfl, (blk_cell BK134.out 3).trans rfl, (blk_cell BK134.out 4).trans rfl, (blk_cell BK134.out 5).trans rfl, (blk_cell BK135.out 0).trans rfl, (blk_cell BK135.out 1).trans rfl, (blk_cell BK135.out 2).trans rfl, (blk_cell BK135.out 3).trans rfl, (blk_cell BK135.out 4).trans rfl, (blk_cell BK135.out 5).trans rfl⟩ (fun hHeld => ?_)
  clear hK K
  refine norm_ (a' := ?_) ?_ ?_
  rotate_left
  · show Act.put _ (some 6) _ = _
    simp only [Act.put, List.setIfInBounds_toArray, List.set_cons_zero, List.set_cons_succ, i64_w, i32_w]
    rfl
  refine one_ (i := 3) (N := some 8) #[true, true, true, true, false, false] rfl rfl (by kernel_rfl) (by decide) (fun K hK => ?_)
  refine goes_ Tryd.func24 (by kernel_rfl) rfl #[.agg #[.int .i64 a1_0, .int .i64 a1_1, .int .i64 a1_2, .int .i64 a1_3, .int .i64 a1_4, .int .i64 a1_5]] (by rfl) rfl rfl (by (try simp only [List.map_toArray, List.map_cons, List.map_nil]); first | done | rfl | (simp only [List.length_drop, List.length_take]; rfl)) ?_
  with_reducible refine (clock_list.calls a1_0 a1_1 a1_2 a1_3 a1_4 a1_5 t139 _ A4.out (by first | exact hG | exact hG.drewN _ | exact (hG.drewN _).drewN _ | exact hG.below HB.out | exact hG.below (by repeat (first | (with_reducible first | exact HB.out | apply below_alloc | apply pw_below_drewN | apply below_drew1 | refine below_set ?_ (Aside0.out (by assumption))) | exact HB.out)))).mono ?_
  rintro e w10 ⟨v140, rfl, ho0, hb⟩
  refine ⟨_, rfl, ?_⟩
  have n0_ := Aside0.mk (Kd.R_elder' (by (with_reducible repeat (first | apply Kd.R_alloc | apply Kd.R_drewN | apply Kd.R_drew)); exact HO138.out) (Kd.R_base ho0) hb)
  have n1_ := Aside0.mk (Kd.R_lower (Kd.R_new' ho0 (Kd.R_lt (by (with_reducible repeat (first | apply Kd.R_alloc | apply Kd.R_drewN | apply Kd.R_drew)); exact HO138.out))) (below_size (by repeat (first | (with_reducible first | exact HB.out | apply below_alloc | apply pw_below_drewN | apply below_drew1 | refine below_set ?_ GE134.out | refine below_set ?_ GE135.out) | exact HB.out))))
  have n2_ := Aside0.mk (blk_below (g := gb134) (o := .cells #[.int .i64 a0_0, .int .i64 a0_1, .int .i64 a0_2, .int .i64 a0_3, .int .i64 a0_4, .int .i64 a0_5] 23 (0, 0)) (by (with_reducible repeat (first | refine blk_drewN ?_ _ | refine blk_drew ?_ | refine blk_alloc ?_ _)); exact BK134.out) hb)
  have n3_ := Aside0.mk (blk_below (g := gb135) (o := .cells #[.int .i64 a1_0, .int .i64 a1_1, .int .i64 a1_2, .int .i64 a1_3, .int .i64 a1_4, .int .i64 a1_5] 23 (0, 0)) (by (with_reducible repeat (first | refine blk_drewN ?_ _ | refine blk_drew ?_ | refine blk_alloc ?_ _)); exact BK135.out) hb)
  have n4_ := Aside0.mk (below_step (by repeat (first | (with_reducible first | exact HB.out | apply below_alloc | apply pw_below_drewN | apply below_drew1 | refine below_set ?_ GE134.out | refine below_set ?_ GE135.out) | exact HB.out)) hb)
  clear HO138
  clear BK134
  clear BK135
  clear HB
  have HO138 := n0_
  have HO141 := n1_
  have BK134 := n2_
  have BK135 := n3_
  have HB := n4_
  clear n0_ n1_ n2_ n3_ n4_
  (try clear hb)
  (try clear hb2)
  (try clear hk)
  (try clear hi)
  (try clear ho0)
  obtain ⟨Ao11, co11, eo11⟩ := Kd.R_slice HO138.out
  (first | subst eo11 | (injection eo11 with f1_ f2_ f3_; have f4_ := f1_.symm; have f5_ := f3_.symm; clear f1_ f2_ f3_; subst f4_; subst f5_))
  obtain ⟨Ao12, co12, eo12⟩ := Kd.R_slice HO141.out
  (first | subst eo12 | (injection eo12 with f1_ f2_ f3_; have f4_ := f1_.symm; have f5_ := f3_.symm; clear f1_ f2_ f3_; subst f4_; subst f5_))
  refine hK.out _ _ ⟨(blk_cell BK134.out 0).trans rfl, (blk_cell BK134.out 1).trans rfl, (blk_cell BK134.out 2).trans rfl, (blk_cell BK134.out 3).trans rfl, (blk_cell BK134.out 4).trans rfl, (blk_cell BK134.out 5).trans rfl, (blk_cell BK135.out 0).trans rfl, (blk_cell BK135.out 1).trans rfl, (blk_cell BK135.out 2).trans rfl, (blk_cell BK135.out 3).trans rfl, (blk_cell BK135.out 4).trans rfl, (blk_cell BK135.out 5).trans rfl⟩ (fun hHeld => ?_)
  clear hK K
  refine norm_ (a' := ?_) ?_ ?_
  rotate_left
  · show Act.put _ (some 8) _ = _
    simp only [Act.put, List.setIfInBounds_toArray, List.set_cons_zero, List.set_cons_succ, i64_w, i32_w]
    rfl
  refine one_ (i := 4) (N := some 9) #[true, true, true, true, true, false] rfl rfl (by kernel_rfl) (by decide) (fun K hK => ?_)
  refine goes_ Tryd.func34 (by kernel_rfl) rfl #[.slice Ao11 t136.length co11, .slice Ao12 t139.length co12] (by rfl) rfl rfl (by (try simp only [List.map_toArray, List.map_cons, List.map_nil]); first | done | rfl | (simp only [List.length_drop, List.length_take]; rfl)) ?_
  with_reducible refine (slices_Compare_int_int.calls k _ _ t136 _ _ t139 t142 _ ?side1 ?side2 ?side3 ?side4 A5.out (by first | exact hG | exact hG.drewN _ | exact (hG.drewN _).drewN _ | exact hG.below HB.out | exact hG.below (by repeat (first | (with_reducible first | exact HB.out | apply below_alloc | apply pw_below_drewN | apply below_drew1 | refine below_set ?_ (Aside0.out (by assumption))) | exact HB.out)))).mono ?_
  (case side1 => repeat (first | exact (Kd.R_reads' HO138.out).2.2 | (with_reducible refine Kd.C_alloc ?_ _) | (with_reducible refine Kd.C_drewN ?_ _) | (with_reducible refine Kd.C_drew ?_)))
  (case side2 => exact (Kd.R_reads' HO138.out).2.1)
  (case side3 => repeat (first | exact (Kd.R_reads' HO141.out).2.2 | (with_reducible refine Kd.C_alloc ?_ _) | (with_reducible refine Kd.C_drewN ?_ _) | (with_reducible refine Kd.C_drew ?_)))
  (case side4 => exact (Kd.R_reads' HO141.out).2.1)
  rintro e w' ⟨rfl, ⟨nd, rfl⟩⟩
  refine ⟨_, rfl, ?_⟩
  refine hK.out _ _ ⟨(blk_cell BK134.out 0).trans rfl, (blk_cell BK134.out 1).trans rfl, (blk_cell BK134.out 2).trans rfl, (blk_cell BK134.out 3).trans rfl, (blk_cell BK134.out 4).trans rfl, (blk_cell BK134.out 5).trans rfl, (blk_cell BK135.out 0).trans rfl, (blk_cell BK135.out 1).trans rfl, (blk_cell BK135.out 2).trans rfl, (blk_cell BK135.out 3).trans rfl, (blk_cell BK135.out 4).trans rfl, (blk_cell BK135.out 5).trans rfl⟩ (fun hHeld => ?_)
  clear hK K
  refine norm_ (a' := ?_) ?_ ?_
  rotate_left
  · show Act.put _ (some 9) _ = _
    simp only [Act.put, List.setIfInBounds_toArray, List.set_cons_zero, List.set_cons_succ, i64_w, i32_w]
    rfl
  refine pure_ (i := 5) (N := some 4) (v := ?_) (a' := ?_) #[true, true, true, true, true, true] rfl rfl (by kernel_rfl) (fun _ _ _ h => h) (Or.inl ⟨by rfl, ?_⟩) ?_ ?_
  rotate_left
  · intro w'
    go_simp
    with_reducible rfl
  rotate_left
  · simp only [Act.put, List.setIfInBounds_toArray, List.set_cons_zero, List.set_cons_succ, i64_w, i32_w]
    rfl
  refine done_ (by kernel_rfl) ?_
  try go_wp2
  go_ret
  exact ⟨by first | rfl | (simp [errW_none, errW_some] <;> rfl) | (simp [*, errW_none, errW_some] <;> rfl), by repeat (first | (with_reducible first | exact HB.out | apply below_alloc | apply pw_below_drewN | apply below_drew1 | refine below_set ?_ GE134.out | refine below_set ?_ GE135.out) | exact HB.out)⟩

end Go.Proofs.YtpmcmkobpjobbaaDoor.PPA
