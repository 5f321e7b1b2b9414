-- Written by a program of the session's out of the translation. Not trusted: Lean checks it.
import Derived.Test.YtmkmopphdkgjeaaDoorPCivx0
import Derived.Test.YtmkmopphdkgjeaaDoorPCivx1
namespace Go.Proofs.YtmkmopphdkgjeaaDoor.PCiv
open Go.RowKit Go.Proofs.YtmkmopphdkgjeaaDoor.Hand Go.Proofs.YtmkmopphdkgjeaaDoorW.PrintWords Go.Proofs.YtmkmopphdkgjeaaDoorW.PrintLast Go.Proofs.YtmkmopphdkgjeaaDoorW.PrintMore
attribute [local go_sem] max2_int min2_int max_two min_two max_three min_three max_four min_four   -- for this text's walks alone
set_option linter.unusedVariables false
set_option linter.unusedSimpArgs false

/-! ### longcaselaw02_CivilNext: function 5 -/
mutual
def longcaselaw02_CivilNext.j0 : Nat → Int → Bool → Int → Int → Int → Bool → Option (Bool)
  | 0, _, _, _, _, _, _ => none
  | k + 1, x0, x3, x4, x5, x6, x29 => if x29 = true then (some x3) else ((civil_Date.f (wrap64 (x0 + 1))).bind fun bt204 => (if bt204.2.2.2 = 0 then ((civil_Weekday.f (wrap64 (x0 + 1))).bind fun t208 => ((civil_Weekday.f x0).bind fun t209 => (longcaselaw02_CivilNext.j1 k x3 x4 x5 x6 bt204.1 bt204.2.1 bt204.2.2.1 (t208 != (Int.tmod (wrap64 (t209 + 1)) 7))))) else (longcaselaw02_CivilNext.j1 k x3 x4 x5 x6 bt204.1 bt204.2.1 bt204.2.2.1 true)))
def longcaselaw02_CivilNext.j1 : Nat → Bool → Int → Int → Int → Int → Int → Int → Bool → Option (Bool)
  | 0, _, _, _, _, _, _, _, _ => none
  | k + 1, x3, x4, x5, x6, x8, x9, x10, x50 => if x50 = true then (some false) else ((civil_Length.f x4 x5).bind fun t210 => (if x6 < t210 then (if x3 = true then (if x8 = x4 then (if x9 = x5 then (some (x10 == (wrap64 (x6 + 1)))) else (some false)) else (some false)) else (some false)) else (if x5 < 12 then (if x3 = true then (if x8 = x4 then (if x9 = (wrap64 (x5 + 1)) then (some (x10 == 1)) else (some false)) else (some false)) else (some false)) else (if x3 = true then (if x8 = (wrap64 (x4 + 1)) then (if x9 = 1 then (some (x10 == 1)) else (some false)) else (some false)) else (some false)))))
end
def longcaselaw02_CivilNext.f (k : Nat) (a0 : Int) : Option (Bool) := (longcaselaw02_shown.f).bind fun t199 => ((civil_Date.f a0).bind fun bt200 => (if bt200.2.2.2 = 0 then (if bt200.1 = 2147483647 then (longcaselaw02_CivilNext.j0 k a0 t199 bt200.1 bt200.2.1 bt200.2.2.1 (bt200.2.1 == 12)) else (longcaselaw02_CivilNext.j0 k a0 t199 bt200.1 bt200.2.1 bt200.2.2.1 false)) else (longcaselaw02_CivilNext.j0 k a0 t199 bt200.1 bt200.2.1 bt200.2.2.1 true)))
theorem longcaselaw02_CivilNext.mono_l : ∀ k, (∀ y0 y1 y2 y3 y4 y5, LeO (longcaselaw02_CivilNext.j0 k y0 y1 y2 y3 y4 y5) (longcaselaw02_CivilNext.j0 (k + 1) y0 y1 y2 y3 y4 y5)) ∧ (∀ y0 y1 y2 y3 y4 y5 y6 y7, LeO (longcaselaw02_CivilNext.j1 k y0 y1 y2 y3 y4 y5 y6 y7) (longcaselaw02_CivilNext.j1 (k + 1) y0 y1 y2 y3 y4 y5 y6 y7))
  | 0 => ⟨fun _ _ _ _ _ _ r h => by simp [longcaselaw02_CivilNext.j0] at h, fun _ _ _ _ _ _ _ _ r h => by simp [longcaselaw02_CivilNext.j1] at h⟩
  | k + 1 => by
    obtain ⟨ih0, ih1⟩ := longcaselaw02_CivilNext.mono_l k
    refine ⟨?_, ?_⟩
    · intro y0 y1 y2 y3 y4 y5
      unfold longcaselaw02_CivilNext.j0
      repeat' first
      | (with_reducible exact ih0 _ _ _ _ _ _)
      | (with_reducible exact ih1 _ _ _ _ _ _ _ _)
      | (with_reducible exact LeO.refl _)
      | (with_reducible exact LeO.none _)
      | (with_reducible refine LeO.ite ?_ ?_)
      | (with_reducible refine LeO.bind ?_ (fun _ => ?_))
      | exact ih0 _ _ _ _ _ _
      | exact ih1 _ _ _ _ _ _ _ _
      | exact LeO.none _
      | refine LeO.ite ?_ ?_
      | refine LeO.bind ?_ (fun _ => ?_)
    · intro y0 y1 y2 y3 y4 y5 y6 y7
      unfold longcaselaw02_CivilNext.j1
      repeat' first
      | (with_reducible exact ih0 _ _ _ _ _ _)
      | (with_reducible exact ih1 _ _ _ _ _ _ _ _)
      | (with_reducible exact LeO.refl _)
      | (with_reducible exact LeO.none _)
      | (with_reducible refine LeO.ite ?_ ?_)
      | (with_reducible refine LeO.bind ?_ (fun _ => ?_))
      | exact ih0 _ _ _ _ _ _
      | exact ih1 _ _ _ _ _ _ _ _
      | exact LeO.none _
      | refine LeO.ite ?_ ?_
      | refine LeO.bind ?_ (fun _ => ?_)
theorem longcaselaw02_CivilNext.mono : ∀ a0 k, LeO (longcaselaw02_CivilNext.f k a0) (longcaselaw02_CivilNext.f (k + 1) a0) := by
  intro a0 k
  obtain ⟨ih0, ih1⟩ := longcaselaw02_CivilNext.mono_l k
  unfold longcaselaw02_CivilNext.f
  repeat' first
      | (with_reducible exact ih0 _ _ _ _ _ _)
      | (with_reducible exact ih1 _ _ _ _ _ _ _ _)
      | (with_reducible exact LeO.refl _)
      | (with_reducible exact LeO.none _)
      | (with_reducible refine LeO.ite ?_ ?_)
      | (with_reducible refine LeO.bind ?_ (fun _ => ?_))
      | exact ih0 _ _ _ _ _ _
      | exact ih1 _ _ _ _ _ _ _ _
      | exact LeO.none _
      | refine LeO.ite ?_ ?_
      | refine LeO.bind ?_ (fun _ => ?_)
set_option maxHeartbeats 8000000 in
set_option maxRecDepth 100000 in
theorem longcaselaw02_CivilNext.calls (k : Nat) (a0 : Int) (r : Bool) (w : World) (h : longcaselaw02_CivilNext.f k a0 = some r) : Glob w →
    Calls Tryd.prog 5 #[.int .i64 a0] w fun e w' => e = .returned (.bool r) ∧ Drawn0 w w' := by
  intro hG
  have H : ((longcaselaw02_shown.f).bind fun t199 => ((civil_Date.f a0).bind fun bt200 => (if bt200.2.2.2 = 0 then (if bt200.1 = 2147483647 then (longcaselaw02_CivilNext.j0 k a0 t199 bt200.1 bt200.2.1 bt200.2.2.1 (bt200.2.1 == 12)) else (longcaselaw02_CivilNext.j0 k a0 t199 bt200.1 bt200.2.1 bt200.2.2.1 false)) else (longcaselaw02_CivilNext.j0 k a0 t199 bt200.1 bt200.2.1 bt200.2.2.1 true)))) = some r := h
  clear h
  replace H := Option.bind_eq_some_iff.mp H
  obtain ⟨t199, A20, H⟩ := H
  replace H : ((civil_Date.f a0).bind fun bt200 => (if bt200.2.2.2 = 0 then (if bt200.1 = 2147483647 then (longcaselaw02_CivilNext.j0 k a0 t199 bt200.1 bt200.2.1 bt200.2.2.1 (bt200.2.1 == 12)) else (longcaselaw02_CivilNext.j0 k a0 t199 bt200.1 bt200.2.1 bt200.2.2.1 false)) else (longcaselaw02_CivilNext.j0 k a0 t199 bt200.1 bt200.2.1 bt200.2.2.1 true))) = some r := H
  have A2 := Aside0.mk A20
  clear A20
  replace H := Option.bind_eq_some_iff.mp H
  obtain ⟨⟨t200, t201, t202, t203⟩, A30, H⟩ := H
  replace H : (if t203 = 0 then (if t200 = 2147483647 then (longcaselaw02_CivilNext.j0 k a0 t199 t200 t201 t202 (t201 == 12)) else (longcaselaw02_CivilNext.j0 k a0 t199 t200 t201 t202 false)) else (longcaselaw02_CivilNext.j0 k a0 t199 t200 t201 t202 true)) = some r := H
  have A3 := Aside0.mk A30
  clear A30
  have HC4 := Aside0.mk H
  clear H
  go_enter Tryd.func5, Tryd.ntmps5
  go_upto_region 3 with (first | ((with_reducible refine gate_callee (f := 11) rfl ?_); refine goesL_ (some 12) rfl rfl Tryd.func11 (by kernel_rfl) rfl #[] rfl (by (try simp only [List.map_toArray, List.map_cons, List.map_nil]); first | done | rfl | (simp only [List.length_drop, List.length_take]; rfl)) ?_; (with_reducible refine (longcaselaw02_shown.calls  t199 _ A2.out (by first | exact hG | exact hG.drewN _ | exact (hG.drewN _).drewN _)).mono ?_); rintro e w' ⟨rfl, ⟨nd, rfl⟩⟩; refine ⟨_, rfl, ?_⟩) | ((with_reducible refine gate_callee (f := 22) rfl ?_); refine goesL_ (some 15) rfl rfl Tryd.func22 (by kernel_rfl) rfl #[.int .i64 a0] rfl (by (try simp only [List.map_toArray, List.map_cons, List.map_nil]); first | done | rfl | (simp only [List.length_drop, List.length_take]; rfl)) ?_; (with_reducible refine (civil_Date.calls a0 t200 t201 t202 t203 _ A3.out (by first | exact hG | exact hG.drewN _ | exact (hG.drewN _).drewN _)).mono ?_); rintro e w' ⟨rfl, ⟨nd, rfl⟩⟩; refine ⟨_, rfl, ?_⟩))
  (try simp only [Act.put, List.setIfInBounds_toArray, List.set_cons_zero, List.set_cons_succ])
  go_cut [29] (fun v29 wc => ∃ (kq : Nat) (x29_3 : Bool), v29 = .bool x29_3 ∧ Aside0 (longcaselaw02_CivilNext.j0 kq a0 t199 t200 t201 t202 x29_3 = some r) ∧ Aside0 (kq ≤ k) ∧ Drawn0 w wc)
  case first =>
    have H := HC4.out
    clear HC4
    by_cases c5 : t203 = 0
    · rw [if_pos c5] at H
      have c5b0 : (t203 == 0) = true := beq_iff_eq.mpr c5
      have c5b1 : (t203 != 0) = false := bne_eq_false_iff_eq.mpr c5
      clear c5
      (first | rw [c5b0] | (simp only [i64_w, i32_w]; rw [c5b0]) | skip)
      by_cases c6 : t200 = 2147483647
      · rw [if_pos c6] at H
        have c6b0 : (t200 == 2147483647) = true := beq_iff_eq.mpr c6
        have c6b1 : (t200 != 2147483647) = false := bne_eq_false_iff_eq.mpr c6
        clear c6
        have H' := Aside0.mk H
        clear H
        go_wp2
        go_meet
        case rel => exact ⟨_, ((t201 == 12)), (by first | rfl | (simp; done) | (simp [*]; done)), H', ⟨by first | omega | exact Nat.le_refl _⟩, by repeat (first | exact Drawn0.refl _ | apply Drawn0.step)⟩
      · rw [if_neg c6] at H
        have c6b0 : (t200 == 2147483647) = false := beq_eq_false_iff_ne.mpr c6
        have c6b1 : (t200 != 2147483647) = true := bne_iff_ne.mpr c6
        have H' := Aside0.mk H
        clear H
        go_wp2
        go_meet
        case rel => exact ⟨_, (false), (by first | rfl | (simp; done) | (simp [*]; done)), H', ⟨by first | omega | exact Nat.le_refl _⟩, by repeat (first | exact Drawn0.refl _ | apply Drawn0.step)⟩
    · rw [if_neg c5] at H
      have c5b0 : (t203 == 0) = false := beq_eq_false_iff_ne.mpr c5
      have c5b1 : (t203 != 0) = true := bne_iff_ne.mpr c5
      (first | rw [c5b0] | (simp only [i64_w, i32_w]; rw [c5b0]) | skip)
      have H' := Aside0.mk H
      clear H
      go_wp2
      go_meet
      case rel => exact ⟨_, (true), (by first | rfl | (simp; done) | (simp [*]; done)), H', ⟨by first | omega | exact Nat.le_refl _⟩, by repeat (first | exact Drawn0.refl _ | apply Drawn0.step)⟩
  case rest =>
    clear HC4
    try clear c1
    try clear c2
    try clear p2
    try clear c5
    try clear c5b0
    try clear c5b1
    try clear c6
    try clear c6b0
    try clear c6b1
    obtain ⟨kq, x29_3, rfl, HA, HJ3, ⟨mc3, rfl⟩⟩ := hcut
    cases kq with
    | zero => exact absurd HA.out (by simp [longcaselaw02_CivilNext.j0])
    | succ kj3 =>
      have H := HA.out
      clear HA
      simp only [longcaselaw02_CivilNext.j0] at H
      by_cases c7 : x29_3 = true
      · subst c7
        have H1 : (some t199) = some r := by rw [if_pos rfl] at H; exact H
        clear H
        have H := H1
        clear H1
        obtain rfl := Option.some.inj H
        go_wp2
        go_ret
        exact ⟨by first | rfl | (simp; done) | (simp [*]; done), by repeat (first | exact Drawn0.refl _ | apply Drawn0.step)⟩
      · replace c7 := Bool.eq_false_iff.mpr c7
        subst c7
        have H1 : ((civil_Date.f (wrap64 (a0 + 1))).bind fun bt204 => (if bt204.2.2.2 = 0 then ((civil_Weekday.f (wrap64 (a0 + 1))).bind fun t208 => ((civil_Weekday.f a0).bind fun t209 => (longcaselaw02_CivilNext.j1 kj3 t199 t200 t201 t202 bt204.1 bt204.2.1 bt204.2.2.1 (t208 != (Int.tmod (wrap64 (t209 + 1)) 7))))) else (longcaselaw02_CivilNext.j1 kj3 t199 t200 t201 t202 bt204.1 bt204.2.1 bt204.2.2.1 true))) = some r := by rw [if_neg (show ¬ (false = true) by decide)] at H; exact H
        clear H
        have H := H1
        clear H1
        replace H := Option.bind_eq_some_iff.mp H
        obtain ⟨⟨t204, t205, t206, t207⟩, A80, H⟩ := H
        replace H : (if t207 = 0 then ((civil_Weekday.f (wrap64 (a0 + 1))).bind fun t208 => ((civil_Weekday.f a0).bind fun t209 => (longcaselaw02_CivilNext.j1 kj3 t199 t200 t201 t202 t204 t205 t206 (t208 != (Int.tmod (wrap64 (t209 + 1)) 7))))) else (longcaselaw02_CivilNext.j1 kj3 t199 t200 t201 t202 t204 t205 t206 true)) = some r := H
        have A8 := Aside0.mk A80
        clear A80
        have HC9 := Aside0.mk H
        clear H
        go_upto_region 6 with (first | ((with_reducible refine gate_callee (f := 22) rfl ?_); refine goesL_ (some 34) rfl rfl Tryd.func22 (by kernel_rfl) rfl #[.int .i64 (wrap64 (a0 + 1))] rfl (by (try simp only [List.map_toArray, List.map_cons, List.map_nil]); first | done | rfl | (simp only [List.length_drop, List.length_take]; rfl)) ?_; (with_reducible refine (civil_Date.calls (wrap64 (a0 + 1)) t204 t205 t206 t207 _ A8.out (by first | exact hG | exact hG.drewN _ | exact (hG.drewN _).drewN _)).mono ?_); rintro e w' ⟨rfl, ⟨nd, rfl⟩⟩; refine ⟨_, rfl, ?_⟩))
        (try simp only [Act.put, List.setIfInBounds_toArray, List.set_cons_zero, List.set_cons_succ])
        go_cut [50] (fun v50 wc => ∃ (kq : Nat) (x50_8 : Bool), v50 = .bool x50_8 ∧ Aside0 (longcaselaw02_CivilNext.j1 kq t199 t200 t201 t202 t204 t205 t206 x50_8 = some r) ∧ Aside0 (kq ≤ kj3) ∧ Drawn0 w wc)
        case first =>
          have H := HC9.out
          clear HC9
          by_cases c10 : t207 = 0
          · rw [if_pos c10] at H
            have c10b0 : (t207 == 0) = true := beq_iff_eq.mpr c10
            have c10b1 : (t207 != 0) = false := bne_eq_false_iff_eq.mpr c10
            clear c10
            (first | rw [c10b0] | (simp only [i64_w, i32_w]; rw [c10b0]) | skip)
            replace H := Option.bind_eq_some_iff.mp H
            obtain ⟨t208, A110, H⟩ := H
            replace H : ((civil_Weekday.f a0).bind fun t209 => (longcaselaw02_CivilNext.j1 kj3 t199 t200 t201 t202 t204 t205 t206 (t208 != (Int.tmod (wrap64 (t209 + 1)) 7)))) = some r := H
            have A11 := Aside0.mk A110
            clear A110
            replace H := Option.bind_eq_some_iff.mp H
            obtain ⟨t209, A120, H⟩ := H
            replace H : (longcaselaw02_CivilNext.j1 kj3 t199 t200 t201 t202 t204 t205 t206 (t208 != (Int.tmod (wrap64 (t209 + 1)) 7))) = some r := H
            have A12 := Aside0.mk A120
            clear A120
            have H' := Aside0.mk H
            clear H
            go_wp2_with (first | (go_at_call 25; (with_reducible refine (civil_Weekday.calls (wrap64 (a0 + 1)) t208 _ A11.out (by first | exact hG | exact hG.drewN _ | exact (hG.drewN _).drewN _)).mono ?_); rintro e w' ⟨rfl, ⟨nd, rfl⟩⟩) | (go_at_call 25; (with_reducible refine (civil_Weekday.calls a0 t209 _ A12.out (by first | exact hG | exact hG.drewN _ | exact (hG.drewN _).drewN _)).mono ?_); rintro e w' ⟨rfl, ⟨nd, rfl⟩⟩))
            go_meet
            case rel => exact ⟨_, ((t208 != (Int.tmod (wrap64 (t209 + 1)) 7))), (by first | rfl | (simp; done) | (simp [*]; done)), H', ⟨by have := HJ3.out; first | omega | exact Nat.le_refl _⟩, by repeat (first | exact Drawn0.refl _ | apply Drawn0.step)⟩
          · rw [if_neg c10] at H
            have c10b0 : (t207 == 0) = false := beq_eq_false_iff_ne.mpr c10
            have c10b1 : (t207 != 0) = true := bne_iff_ne.mpr c10
            (first | rw [c10b0] | (simp only [i64_w, i32_w]; rw [c10b0]) | skip)
            have H' := Aside0.mk H
            clear H
            go_wp2
            go_meet
            case rel => exact ⟨_, (true), (by first | rfl | (simp; done) | (simp [*]; done)), H', ⟨by have := HJ3.out; first | omega | exact Nat.le_refl _⟩, by repeat (first | exact Drawn0.refl _ | apply Drawn0.step)⟩
        case rest =>
          clear HC9
          try clear c1
          try clear c2
          try clear p2
          try clear c3
          try clear c5
          try clear c5b0
          try clear c5b1
          try clear c6
          try clear c6b0
          try clear c6b1
          try clear p6
          try clear c7
          try clear c10
          try clear c10b0
          try clear c10b1
          try clear c11
          try clear p2
          obtain ⟨kq, x50_8, rfl, HA, HJ8, ⟨mc8, rfl⟩⟩ := hcut
          cases kq with
          | zero => exact absurd HA.out (by simp [longcaselaw02_CivilNext.j1])
          | succ kj8 =>
            have H := HA.out
            clear HA
            simp only [longcaselaw02_CivilNext.j1] at H
            by_cases c13 : x50_8 = true
            · subst c13
              have H1 : (some false) = some r := by rw [if_pos rfl] at H; exact H
              clear H
              have H := H1
              clear H1
              obtain rfl := Option.some.inj H
              go_wp2
              go_ret
              exact ⟨by first | rfl | (simp; done) | (simp [*]; done), by repeat (first | exact Drawn0.refl _ | apply Drawn0.step)⟩
            · replace c13 := Bool.eq_false_iff.mpr c13
              subst c13
              have H1 : ((civil_Length.f t200 t201).bind fun t210 => (if t202 < t210 then (if t199 = true then (if t204 = t200 then (if t205 = t201 then (some (t206 == (wrap64 (t202 + 1)))) else (some false)) else (some false)) else (some false)) else (if t201 < 12 then (if t199 = true then (if t204 = t200 then (if t205 = (wrap64 (t201 + 1)) then (some (t206 == 1)) else (some false)) else (some false)) else (some false)) else (if t199 = true then (if t204 = (wrap64 (t200 + 1)) then (if t205 = 1 then (some (t206 == 1)) else (some false)) else (some false)) else (some false))))) = some r := by rw [if_neg (show ¬ (false = true) by decide)] at H; exact H
              clear H
              have H := H1
              clear H1
              replace H := Option.bind_eq_some_iff.mp H
              obtain ⟨t210, A140, H⟩ := H
              replace H : (if t202 < t210 then (if t199 = true then (if t204 = t200 then (if t205 = t201 then (some (t206 == (wrap64 (t202 + 1)))) else (some false)) else (some false)) else (some false)) else (if t201 < 12 then (if t199 = true then (if t204 = t200 then (if t205 = (wrap64 (t201 + 1)) then (some (t206 == 1)) else (some false)) else (some false)) else (some false)) else (if t199 = true then (if t204 = (wrap64 (t200 + 1)) then (if t205 = 1 then (some (t206 == 1)) else (some false)) else (some false)) else (some false)))) = some r := H
              have A14 := Aside0.mk A140
              clear A140
              by_cases c15 : t202 < t210
              · rw [if_pos c15] at H
                have c15b0 : decide (t202 < t210) = true := decide_eq_true c15
                clear c15
                by_cases c16 : t199 = true
                · subst c16
                  have H1 : (if t204 = t200 then (if t205 = t201 then (some (t206 == (wrap64 (t202 + 1)))) else (some false)) else (some false)) = some r := by rw [if_pos rfl] at H; exact H
                  clear H
                  have H := H1
                  clear H1
                  by_cases c17 : t204 = t200
                  · rw [if_pos c17] at H
                    have c17b0 : (t204 == t200) = true := beq_iff_eq.mpr c17
                    have c17b1 : (t204 != t200) = false := bne_eq_false_iff_eq.mpr c17
                    clear c17
                    by_cases c18 : t205 = t201
                    · rw [if_pos c18] at H
                      have c18b0 : (t205 == t201) = true := beq_iff_eq.mpr c18
                      have c18b1 : (t205 != t201) = false := bne_eq_false_iff_eq.mpr c18
                      clear c18
                      obtain rfl := Option.some.inj H
                      go_wp2_with (first | ((with_reducible refine gate_callee (f := 18) rfl ?_); refine goesL_ (some 54) rfl rfl Tryd.func18 (by kernel_rfl) rfl #[.int .i64 t200, .int .i64 t201] rfl (by (try simp only [List.map_toArray, List.map_cons, List.map_nil]); first | done | rfl | (simp only [List.length_drop, List.length_take]; rfl)) ?_; (with_reducible refine (civil_Length.calls t200 t201 t210 _ A14.out (by first | exact hG | exact hG.drewN _ | exact (hG.drewN _).drewN _)).mono ?_); rintro e w' ⟨rfl, ⟨nd, rfl⟩⟩; refine ⟨_, rfl, ?_⟩))
                      go_ret
                      exact ⟨by first | rfl | (simp; done) | (simp [*]; done), by repeat (first | exact Drawn0.refl _ | apply Drawn0.step)⟩
                    · rw [if_neg c18] at H
                      have c18b0 : (t205 == t201) = false := beq_eq_false_iff_ne.mpr c18
                      have c18b1 : (t205 != t201) = true := bne_iff_ne.mpr c18
                      obtain rfl := Option.some.inj H
                      go_wp2_with (first | ((with_reducible refine gate_callee (f := 18) rfl ?_); refine goesL_ (some 54) rfl rfl Tryd.func18 (by kernel_rfl) rfl #[.int .i64 t200, .int .i64 t201] rfl (by (try simp only [List.map_toArray, List.map_cons, List.map_nil]); first | done | rfl | (simp only [List.length_drop, List.length_take]; rfl)) ?_; (with_reducible refine (civil_Length.calls t200 t201 t210 _ A14.out (by first | exact hG | exact hG.drewN _ | exact (hG.drewN _).drewN _)).mono ?_); rintro e w' ⟨rfl, ⟨nd, rfl⟩⟩; refine ⟨_, rfl, ?_⟩))
                      go_ret
                      exact ⟨by first | rfl | (simp; done) | (simp [*]; done), by repeat (first | exact Drawn0.refl _ | apply Drawn0.step)⟩
                  · rw [if_neg c17] at H
                    have c17b0 : (t204 == t200) = false := beq_eq_false_iff_ne.mpr c17
                    have c17b1 : (t204 != t200) = true := bne_iff_ne.mpr c17
                    obtain rfl := Option.some.inj H
                    go_wp2_with (first | ((with_reducible refine gate_callee (f := 18) rfl ?_); refine goesL_ (some 54) rfl rfl Tryd.func18 (by kernel_rfl) rfl #[.int .i64 t200, .int .i64 t201] rfl (by (try simp only [List.map_toArray, List.map_cons, List.map_nil]); first | done | rfl | (simp only [List.length_drop, List.length_take]; rfl)) ?_; (with_reducible refine (civil_Length.calls t200 t201 t210 _ A14.out (by first | exact hG | exact hG.drewN _ | exact (hG.drewN _).drewN _)).mono ?_); rintro e w' ⟨rfl, ⟨nd, rfl⟩⟩; refine ⟨_, rfl, ?_⟩))
                    go_ret
                    exact ⟨by first | rfl | (simp; done) | (simp [*]; done), by repeat (first | exact Drawn0.refl _ | apply Drawn0.step)⟩
                · replace c16 := Bool.eq_false_iff.mpr c16
                  subst c16
                  have H1 : (some false) = some r := by rw [if_neg (show ¬ (false = true) by decide)] at H; exact H
                  clear H
                  have H := H1
                  clear H1
                  obtain rfl := Option.some.inj H
                  go_wp2_with (first | ((with_reducible refine gate_callee (f := 18) rfl ?_); refine goesL_ (some 54) rfl rfl Tryd.func18 (by kernel_rfl) rfl #[.int .i64 t200, .int .i64 t201] rfl (by (try simp only [List.map_toArray, List.map_cons, List.map_nil]); first | done | rfl | (simp only [List.length_drop, List.length_take]; rfl)) ?_; (with_reducible refine (civil_Length.calls t200 t201 t210 _ A14.out (by first | exact hG | exact hG.drewN _ | exact (hG.drewN _).drewN _)).mono ?_); rintro e w' ⟨rfl, ⟨nd, rfl⟩⟩; refine ⟨_, rfl, ?_⟩))
                  go_ret
                  exact ⟨by first | rfl | (simp; done) | (simp [*]; done), by repeat (first | exact Drawn0.refl _ | apply Drawn0.step)⟩
              · rw [if_neg c15] at H
                have c15b0 : decide (t202 < t210) = false := decide_eq_false c15
                clear c15
                by_cases c19 : t201 < 12
                · rw [if_pos c19] at H
                  have c19b0 : decide (t201 < 12) = true := decide_eq_true c19
                  clear c19
                  by_cases c20 : t199 = true
                  · subst c20
                    have H1 : (if t204 = t200 then (if t205 = (wrap64 (t201 + 1)) then (some (t206 == 1)) else (some false)) else (some false)) = some r := by rw [if_pos rfl] at H; exact H
                    clear H
                    have H := H1
                    clear H1
                    by_cases c21 : t204 = t200
                    · rw [if_pos c21] at H
                      have c21b0 : (t204 == t200) = true := beq_iff_eq.mpr c21
                      have c21b1 : (t204 != t200) = false := bne_eq_false_iff_eq.mpr c21
                      clear c21
                      by_cases c22 : t205 = (wrap64 (t201 + 1))
                      · rw [if_pos c22] at H
                        have c22b0 : (t205 == (wrap64 (t201 + 1))) = true := beq_iff_eq.mpr c22
                        have c22b1 : (t205 != (wrap64 (t201 + 1))) = false := bne_eq_false_iff_eq.mpr c22
                        clear c22
                        obtain rfl := Option.some.inj H
                        go_wp2_with (first | ((with_reducible refine gate_callee (f := 18) rfl ?_); refine goesL_ (some 54) rfl rfl Tryd.func18 (by kernel_rfl) rfl #[.int .i64 t200, .int .i64 t201] rfl (by (try simp only [List.map_toArray, List.map_cons, List.map_nil]); first | done | rfl | (simp only [List.length_drop, List.length_take]; rfl)) ?_; (with_reducible refine (civil_Length.calls t200 t201 t210 _ A14.out (by first | exact hG | exact hG.drewN _ | exact (hG.drewN _).drewN _)).mono ?_); rintro e w' ⟨rfl, ⟨nd, rfl⟩⟩; refine ⟨_, rfl, ?_⟩))
                        go_ret
                        exact ⟨by first | rfl | (simp; done) | (simp [*]; done), by repeat (first | exact Drawn0.refl _ | apply Drawn0.step)⟩
                      · rw [if_neg c22] at H
                        have c22b0 : (t205 == (wrap64 (t201 + 1))) = false := beq_eq_false_iff_ne.mpr c22
                        have c22b1 : (t205 != (wrap64 (t201 + 1))) = true := bne_iff_ne.mpr c22
                        obtain rfl := Option.some.inj H
                        go_wp2_with (first | ((with_reducible refine gate_callee (f := 18) rfl ?_); refine goesL_ (some 54) rfl rfl Tryd.func18 (by kernel_rfl) rfl #[.int .i64 t200, .int .i64 t201] rfl (by (try simp only [List.map_toArray, List.map_cons, List.map_nil]); first | done | rfl | (simp only [List.length_drop, List.length_take]; rfl)) ?_; (with_reducible refine (civil_Length.calls t200 t201 t210 _ A14.out (by first | exact hG | exact hG.drewN _ | exact (hG.drewN _).drewN _)).mono ?_); rintro e w' ⟨rfl, ⟨nd, rfl⟩⟩; refine ⟨_, rfl, ?_⟩))
                        go_ret
                        exact ⟨by first | rfl | (simp; done) | (simp [*]; done), by repeat (first | exact Drawn0.refl _ | apply Drawn0.step)⟩
                    · rw [if_neg c21] at H
                      have c21b0 : (t204 == t200) = false := beq_eq_false_iff_ne.mpr c21
                      have c21b1 : (t204 != t200) = true := bne_iff_ne.mpr c21
                      obtain rfl := Option.some.inj H
                      go_wp2_with (first | ((with_reducible refine gate_callee (f := 18) rfl ?_); refine goesL_ (some 54) rfl rfl Tryd.func18 (by kernel_rfl) rfl #[.int .i64 t200, .int .i64 t201] rfl (by (try simp only [List.map_toArray, List.map_cons, List.map_nil]); first | done | rfl | (simp only [List.length_drop, List.length_take]; rfl)) ?_; (with_reducible refine (civil_Length.calls t200 t201 t210 _ A14.out (by first | exact hG | exact hG.drewN _ | exact (hG.drewN _).drewN _)).mono ?_); rintro e w' ⟨rfl, ⟨nd, rfl⟩⟩; refine ⟨_, rfl, ?_⟩))
                      go_ret
                      exact ⟨by first | rfl | (simp; done) | (simp [*]; done), by repeat (first | exact Drawn0.refl _ | apply Drawn0.step)⟩
                  · replace c20 := Bool.eq_false_iff.mpr c20
                    subst c20
                    have H1 : (some false) = some r := by rw [if_neg (show ¬ (false = true) by decide)] at H; exact H
                    clear H
                    have H := H1
                    clear H1
                    obtain rfl := Option.some.inj H
                    go_wp2_with (first | ((with_reducible refine gate_callee (f := 18) rfl ?_); refine goesL_ (some 54) rfl rfl Tryd.func18 (by kernel_rfl) rfl #[.int .i64 t200, .int .i64 t201] rfl (by (try simp only [List.map_toArray, List.map_cons, List.map_nil]); first | done | rfl | (simp only [List.length_drop, List.length_take]; rfl)) ?_; (with_reducible refine (civil_Length.calls t200 t201 t210 _ A14.out (by first | exact hG | exact hG.drewN _ | exact (hG.drewN _).drewN _)).mono ?_); rintro e w' ⟨rfl, ⟨nd, rfl⟩⟩; refine ⟨_, rfl, ?_⟩))
                    go_ret
                    exact ⟨by first | rfl | (simp; done) | (simp [*]; done), by repeat (first | exact Drawn0.refl _ | apply Drawn0.step)⟩
                · rw [if_neg c19] at H
                  have c19b0 : decide (t201 < 12) = false := decide_eq_false c19
                  clear c19
                  by_cases c23 : t199 = true
                  · subst c23
                    have H1 : (if t204 = (wrap64 (t200 + 1)) then (if t205 = 1 then (some (t206 == 1)) else (some false)) else (some false)) = some r := by rw [if_pos rfl] at H; exact H
                    clear H
                    have H := H1
                    clear H1
                    by_cases c24 : t204 = (wrap64 (t200 + 1))
                    · rw [if_pos c24] at H
                      have c24b0 : (t204 == (wrap64 (t200 + 1))) = true := beq_iff_eq.mpr c24
                      have c24b1 : (t204 != (wrap64 (t200 + 1))) = false := bne_eq_false_iff_eq.mpr c24
                      clear c24
                      by_cases c25 : t205 = 1
                      · rw [if_pos c25] at H
                        have c25b0 : (t205 == 1) = true := beq_iff_eq.mpr c25
                        have c25b1 : (t205 != 1) = false := bne_eq_false_iff_eq.mpr c25
                        clear c25
                        obtain rfl := Option.some.inj H
                        go_wp2_with (first | ((with_reducible refine gate_callee (f := 18) rfl ?_); refine goesL_ (some 54) rfl rfl Tryd.func18 (by kernel_rfl) rfl #[.int .i64 t200, .int .i64 t201] rfl (by (try simp only [List.map_toArray, List.map_cons, List.map_nil]); first | done | rfl | (simp only [List.length_drop, List.length_take]; rfl)) ?_; (with_reducible refine (civil_Length.calls t200 t201 t210 _ A14.out (by first | exact hG | exact hG.drewN _ | exact (hG.drewN _).drewN _)).mono ?_); rintro e w' ⟨rfl, ⟨nd, rfl⟩⟩; refine ⟨_, rfl, ?_⟩))
                        go_ret
                        exact ⟨by first | rfl | (simp; done) | (simp [*]; done), by repeat (first | exact Drawn0.refl _ | apply Drawn0.step)⟩
                      · rw [if_neg c25] at H
                        have c25b0 : (t205 == 1) = false := beq_eq_false_iff_ne.mpr c25
                        have c25b1 : (t205 != 1) = true := bne_iff_ne.mpr c25
                        obtain rfl := Option.some.inj H
                        go_wp2_with (first | ((with_reducible refine gate_callee (f := 18) rfl ?_); refine goesL_ (some 54) rfl rfl Tryd.func18 (by kernel_rfl) rfl #[.int .i64 t200, .int .i64 t201] rfl (by (try simp only [List.map_toArray, List.map_cons, List.map_nil]); first | done | rfl | (simp only [List.length_drop, List.length_take]; rfl)) ?_; (with_reducible refine (civil_Length.calls t200 t201 t210 _ A14.out (by first | exact hG | exact hG.drewN _ | exact (hG.drewN _).drewN _)).mono ?_); rintro e w' ⟨rfl, ⟨nd, rfl⟩⟩; refine ⟨_, rfl, ?_⟩))
                        go_ret
                        exact ⟨by first | rfl | (simp; done) | (simp [*]; done), by repeat (first | exact Drawn0.refl _ | apply Drawn0.step)⟩
                    · rw [if_neg c24] at H
                      have c24b0 : (t204 == (wrap64 (t200 + 1))) = false := beq_eq_false_iff_ne.mpr c24
                      have c24b1 : (t204 != (wrap64 (t200 + 1))) = true := bne_iff_ne.mpr c24
                      obtain rfl := Option.some.inj H
                      go_wp2_with (first | ((with_reducible refine gate_callee (f := 18) rfl ?_); refine goesL_ (some 54) rfl rfl Tryd.func18 (by kernel_rfl) rfl #[.int .i64 t200, .int .i64 t201] rfl (by (try simp only [List.map_toArray, List.map_cons, List.map_nil]); first | done | rfl | (simp only [List.length_drop, List.length_take]; rfl)) ?_; (with_reducible refine (civil_Length.calls t200 t201 t210 _ A14.out (by first | exact hG | exact hG.drewN _ | exact (hG.drewN _).drewN _)).mono ?_); rintro e w' ⟨rfl, ⟨nd, rfl⟩⟩; refine ⟨_, rfl, ?_⟩))
                      go_ret
                      exact ⟨by first | rfl | (simp; done) | (simp [*]; done), by repeat (first | exact Drawn0.refl _ | apply Drawn0.step)⟩
                  · replace c23 := Bool.eq_false_iff.mpr c23
                    subst c23
                    have H1 : (some false) = some r := by rw [if_neg (show ¬ (false = true) by decide)] at H; exact H
                    clear H
                    have H := H1
                    clear H1
                    obtain rfl := Option.some.inj H
                    go_wp2_with (first | ((with_reducible refine gate_callee (f := 18) rfl ?_); refine goesL_ (some 54) rfl rfl Tryd.func18 (by kernel_rfl) rfl #[.int .i64 t200, .int .i64 t201] rfl (by (try simp only [List.map_toArray, List.map_cons, List.map_nil]); first | done | rfl | (simp only [List.length_drop, List.length_take]; rfl)) ?_; (with_reducible refine (civil_Length.calls t200 t201 t210 _ A14.out (by first | exact hG | exact hG.drewN _ | exact (hG.drewN _).drewN _)).mono ?_); rintro e w' ⟨rfl, ⟨nd, rfl⟩⟩; refine ⟨_, rfl, ?_⟩))
                    go_ret
                    exact ⟨by first | rfl | (simp; done) | (simp [*]; done), by repeat (first | exact Drawn0.refl _ | apply Drawn0.step)⟩

/-- THE ONE PURE STATEMENT of longcaselaw02_CivilNext: yours. -/
def longcaselaw02_CivilNext.Pure : Prop := ∀ (a0 : Int), (Lit.int .i64 a0).wf = true → ∃ k, longcaselaw02_CivilNext.f k a0 = some true
theorem longcaselaw02_CivilNext.walk (P : longcaselaw02_CivilNext.Pure) (a0 : Int) (w : World) (w0 : (Lit.int .i64 a0).wf = true) (hG : Glob w) :
    Calls Tryd.prog 5 #[.int .i64 a0] w fun e w' => e = .returned (.bool true) ∧ Below w.heap.size w w' := by
  obtain ⟨k, h⟩ := P a0 w0
  refine (longcaselaw02_CivilNext.calls k a0 true w h hG).mono ?_
  rintro e w' ⟨rfl, hd⟩
  exact ⟨rfl, hd.below⟩

/-! ### longcaselaw02_CivilYears: function 6 -/
mutual
def longcaselaw02_CivilYears.j0 : Nat → Bool → Int → Int → Int → Int → Int → Int → Int → Int → Int → Int → Bool → Option (Bool)
  | 0, _, _, _, _, _, _, _, _, _, _, _, _ => none
  | k + 1, x3, x4, x5, x6, x7, x8, x9, x10, x11, x12, x13, x56 => if x56 = true then (longcaselaw02_CivilYears.j1 k x3 x4 x5 x6 x7 x8 x9 x10 x11 x12 366) else (longcaselaw02_CivilYears.j1 k x3 x4 x5 x6 x7 x8 x9 x10 x11 x12 x13)
def longcaselaw02_CivilYears.j1 : Nat → Bool → Int → Int → Int → Int → Int → Int → Int → Int → Int → Int → Option (Bool)
  | 0, _, _, _, _, _, _, _, _, _, _, _ => none
  | k + 1, x3, x4, x5, x6, x7, x8, x9, x10, x11, x12, x13 => longcaselaw02_CivilYears.l0 k x3 x4 x5 x6 x7 x8 x9 x10 x11 x12 x13 0 1
def longcaselaw02_CivilYears.l0 : Nat → Bool → Int → Int → Int → Int → Int → Int → Int → Int → Int → Int → Int → Int → Option (Bool)
  | 0, _, _, _, _, _, _, _, _, _, _, _, _, _ => none
  | k + 1, x3, x4, x5, x6, x7, x8, x9, x10, x11, x12, x13, x14, x15 => if x15 ≤ 12 then ((civil_Length.f x4 x15).bind fun t220 => (longcaselaw02_CivilYears.l0 k x3 x4 x5 x6 x7 x8 x9 x10 x11 x12 x13 (wrap64 (x14 + t220)) (wrap64 (x15 + 1)))) else (if x3 = true then (if x6 = 0 then (if x8 = 0 then (if x10 = 0 then (if x12 = 0 then (if (wrap64 (x7 - x5)) = x13 then (if (wrap64 (x9 - x5)) = 146097 then (if x11 = (wrap64 (x13 - 1)) then (if x14 = x13 then ((civil_Leap.f x4).bind fun t221 => (some (t221 == (x13 == 366)))) else (some false)) else (some false)) else (some false)) else (some false)) else (some false)) else (some false)) else (some false)) else (some false)) else (some false))
end
def longcaselaw02_CivilYears.f (k : Nat) (a0 : Int) : Option (Bool) := (longcaselaw02_shown.f).bind fun t211 => (if (wrap64 (a0)) > 2147483247 then (some t211) else ((civil_Days.f (wrap64 (a0)) 1 1).bind fun bt212 => ((civil_Days.f (wrap64 ((wrap64 (a0)) + 1)) 1 1).bind fun bt214 => ((civil_Days.f (wrap64 ((wrap64 (a0)) + 400)) 1 1).bind fun bt216 => ((civil_Yearday.f (wrap64 (a0)) 12 31).bind fun bt218 => (if (Int.tmod (wrap64 (a0)) 4) = 0 then (if (Int.tmod (wrap64 (a0)) 100) = 0 then (longcaselaw02_CivilYears.j0 k t211 (wrap64 (a0)) bt212.1 bt212.2 bt214.1 bt214.2 bt216.1 bt216.2 bt218.1 bt218.2 365 ((Int.tmod (wrap64 (a0)) 400) == 0)) else (longcaselaw02_CivilYears.j0 k t211 (wrap64 (a0)) bt212.1 bt212.2 bt214.1 bt214.2 bt216.1 bt216.2 bt218.1 bt218.2 365 true)) else (longcaselaw02_CivilYears.j0 k t211 (wrap64 (a0)) bt212.1 bt212.2 bt214.1 bt214.2 bt216.1 bt216.2 bt218.1 bt218.2 365 ((Int.tmod (wrap64 (a0)) 400) == 0))))))))
theorem longcaselaw02_CivilYears.mono_l : ∀ k, (∀ y0 y1 y2 y3 y4 y5 y6 y7 y8 y9 y10 y11, LeO (longcaselaw02_CivilYears.j0 k y0 y1 y2 y3 y4 y5 y6 y7 y8 y9 y10 y11) (longcaselaw02_CivilYears.j0 (k + 1) y0 y1 y2 y3 y4 y5 y6 y7 y8 y9 y10 y11)) ∧ (∀ y0 y1 y2 y3 y4 y5 y6 y7 y8 y9 y10, LeO (longcaselaw02_CivilYears.j1 k y0 y1 y2 y3 y4 y5 y6 y7 y8 y9 y10) (longcaselaw02_CivilYears.j1 (k + 1) y0 y1 y2 y3 y4 y5 y6 y7 y8 y9 y10)) ∧ (∀ y0 y1 y2 y3 y4 y5 y6 y7 y8 y9 y10 y11 y12, LeO (longcaselaw02_CivilYears.l0 k y0 y1 y2 y3 y4 y5 y6 y7 y8 y9 y10 y11 y12) (longcaselaw02_CivilYears.l0 (k + 1) y0 y1 y2 y3 y4 y5 y6 y7 y8 y9 y10 y11 y12))
  | 0 => ⟨fun _ _ _ _ _ _ _ _ _ _ _ _ r h => by simp [longcaselaw02_CivilYears.j0] at h, fun _ _ _ _ _ _ _ _ _ _ _ r h => by simp [longcaselaw02_CivilYears.j1] at h, fun _ _ _ _ _ _ _ _ _ _ _ _ _ r h => by simp [longcaselaw02_CivilYears.l0] at h⟩
  | k + 1 => by
    obtain ⟨ih0, ih1, ih2⟩ := longcaselaw02_CivilYears.mono_l k
    refine ⟨?_, ?_, ?_⟩
    · intro y0 y1 y2 y3 y4 y5 y6 y7 y8 y9 y10 y11
      unfold longcaselaw02_CivilYears.j0
      repeat' first
      | (with_reducible exact ih0 _ _ _ _ _ _ _ _ _ _ _ _)
      | (with_reducible exact ih1 _ _ _ _ _ _ _ _ _ _ _)
      | (with_reducible exact ih2 _ _ _ _ _ _ _ _ _ _ _ _ _)
      | (with_reducible exact LeO.refl _)
      | (with_reducible exact LeO.none _)
      | (with_reducible refine LeO.ite ?_ ?_)
      | (with_reducible refine LeO.bind ?_ (fun _ => ?_))
      | exact ih0 _ _ _ _ _ _ _ _ _ _ _ _
      | exact ih1 _ _ _ _ _ _ _ _ _ _ _
      | exact ih2 _ _ _ _ _ _ _ _ _ _ _ _ _
      | exact LeO.none _
      | refine LeO.ite ?_ ?_
      | refine LeO.bind ?_ (fun _ => ?_)
    · intro y0 y1 y2 y3 y4 y5 y6 y7 y8 y9 y10
      unfold longcaselaw02_CivilYears.j1
      repeat' first
      | (with_reducible exact ih0 _ _ _ _ _ _ _ _ _ _ _ _)
      | (with_reducible exact ih1 _ _ _ _ _ _ _ _ _ _ _)
      | (with_reducible exact ih2 _ _ _ _ _ _ _ _ _ _ _ _ _)
      | (with_reducible exact LeO.refl _)
      | (with_reducible exact LeO.none _)
      | (with_reducible refine LeO.ite ?_ ?_)
      | (with_reducible refine LeO.bind ?_ (fun _ => ?_))
      | exact ih0 _ _ _ _ _ _ _ _ _ _ _ _
      | exact ih1 _ _ _ _ _ _ _ _ _ _ _
      | exact ih2 _ _ _ _ _ _ _ _ _ _ _ _ _
      | exact LeO.none _
      | refine LeO.ite ?_ ?_
      | refine LeO.bind ?_ (fun _ => ?_)
    · intro y0 y1 y2 y3 y4 y5 y6 y7 y8 y9 y10 y11 y12
      unfold longcaselaw02_CivilYears.l0
      repeat' first
      | (with_reducible exact ih0 _ _ _ _ _ _ _ _ _ _ _ _)
      | (with_reducible exact ih1 _ _ _ _ _ _ _ _ _ _ _)
      | (with_reducible exact ih2 _ _ _ _ _ _ _ _ _ _ _ _ _)
      | (with_reducible exact LeO.refl _)
      | (with_reducible exact LeO.none _)
      | (with_reducible refine LeO.ite ?_ ?_)
      | (with_reducible refine LeO.bind ?_ (fun _ => ?_))
      | exact ih0 _ _ _ _ _ _ _ _ _ _ _ _
      | exact ih1 _ _ _ _ _ _ _ _ _ _ _
      | exact ih2 _ _ _ _ _ _ _ _ _ _ _ _ _
      | exact LeO.none _
      | refine LeO.ite ?_ ?_
      | refine LeO.bind ?_ (fun _ => ?_)
theorem longcaselaw02_CivilYears.mono : ∀ a0 k, LeO (longcaselaw02_CivilYears.f k a0) (longcaselaw02_CivilYears.f (k + 1) a0) := by
  intro a0 k
  obtain ⟨ih0, ih1, ih2⟩ := longcaselaw02_CivilYears.mono_l k
  unfold longcaselaw02_CivilYears.f
  repeat' first
      | (with_reducible exact ih0 _ _ _ _ _ _ _ _ _ _ _ _)
      | (with_reducible exact ih1 _ _ _ _ _ _ _ _ _ _ _)
      | (with_reducible exact ih2 _ _ _ _ _ _ _ _ _ _ _ _ _)
      | (with_reducible exact LeO.refl _)
      | (with_reducible exact LeO.none _)
      | (with_reducible refine LeO.ite ?_ ?_)
      | (with_reducible refine LeO.bind ?_ (fun _ => ?_))
      | exact ih0 _ _ _ _ _ _ _ _ _ _ _ _
      | exact ih1 _ _ _ _ _ _ _ _ _ _ _
      | exact ih2 _ _ _ _ _ _ _ _ _ _ _ _ _
      | exact LeO.none _
      | refine LeO.ite ?_ ?_
      | refine LeO.bind ?_ (fun _ => ?_)
set_option maxHeartbeats 8000000 in
set_option maxRecDepth 100000 in
theorem longcaselaw02_CivilYears.calls (k : Nat) (a0 : Int) (r : Bool) (w : World) (h : longcaselaw02_CivilYears.f k a0 = some r) : Glob w →
    Calls Tryd.prog 6 #[.int .i32 a0] w fun e w' => e = .returned (.bool r) ∧ Drawn0 w w' := by
  intro hG
  have H : ((longcaselaw02_shown.f).bind fun t211 => (if (wrap64 (a0)) > 2147483247 then (some t211) else ((civil_Days.f (wrap64 (a0)) 1 1).bind fun bt212 => ((civil_Days.f (wrap64 ((wrap64 (a0)) + 1)) 1 1).bind fun bt214 => ((civil_Days.f (wrap64 ((wrap64 (a0)) + 400)) 1 1).bind fun bt216 => ((civil_Yearday.f (wrap64 (a0)) 12 31).bind fun bt218 => (if (Int.tmod (wrap64 (a0)) 4) = 0 then (if (Int.tmod (wrap64 (a0)) 100) = 0 then (longcaselaw02_CivilYears.j0 k t211 (wrap64 (a0)) bt212.1 bt212.2 bt214.1 bt214.2 bt216.1 bt216.2 bt218.1 bt218.2 365 ((Int.tmod (wrap64 (a0)) 400) == 0)) else (longcaselaw02_CivilYears.j0 k t211 (wrap64 (a0)) bt212.1 bt212.2 bt214.1 bt214.2 bt216.1 bt216.2 bt218.1 bt218.2 365 true)) else (longcaselaw02_CivilYears.j0 k t211 (wrap64 (a0)) bt212.1 bt212.2 bt214.1 bt214.2 bt216.1 bt216.2 bt218.1 bt218.2 365 ((Int.tmod (wrap64 (a0)) 400) == 0))))))))) = some r := h
  clear h
  replace H := Option.bind_eq_some_iff.mp H
  obtain ⟨t211, A20, H⟩ := H
  replace H : (if (wrap64 (a0)) > 2147483247 then (some t211) else ((civil_Days.f (wrap64 (a0)) 1 1).bind fun bt212 => ((civil_Days.f (wrap64 ((wrap64 (a0)) + 1)) 1 1).bind fun bt214 => ((civil_Days.f (wrap64 ((wrap64 (a0)) + 400)) 1 1).bind fun bt216 => ((civil_Yearday.f (wrap64 (a0)) 12 31).bind fun bt218 => (if (Int.tmod (wrap64 (a0)) 4) = 0 then (if (Int.tmod (wrap64 (a0)) 100) = 0 then (longcaselaw02_CivilYears.j0 k t211 (wrap64 (a0)) bt212.1 bt212.2 bt214.1 bt214.2 bt216.1 bt216.2 bt218.1 bt218.2 365 ((Int.tmod (wrap64 (a0)) 400) == 0)) else (longcaselaw02_CivilYears.j0 k t211 (wrap64 (a0)) bt212.1 bt212.2 bt214.1 bt214.2 bt216.1 bt216.2 bt218.1 bt218.2 365 true)) else (longcaselaw02_CivilYears.j0 k t211 (wrap64 (a0)) bt212.1 bt212.2 bt214.1 bt214.2 bt216.1 bt216.2 bt218.1 bt218.2 365 ((Int.tmod (wrap64 (a0)) 400) == 0)))))))) = some r := H
  have A2 := Aside0.mk A20
  clear A20
  by_cases c3 : (wrap64 (a0)) > 2147483247
  · rw [if_pos c3] at H
    have c3b0 : decide (2147483247 < (wrap64 (a0))) = true := decide_eq_true c3
    clear c3
    obtain rfl := Option.some.inj H
    go_enter Tryd.func6, Tryd.ntmps6
    go_wp2_with (first | ((with_reducible refine gate_callee (f := 11) rfl ?_); refine goesL_ (some 16) rfl rfl Tryd.func11 (by kernel_rfl) rfl #[] rfl (by (try simp only [List.map_toArray, List.map_cons, List.map_nil]); first | done | rfl | (simp only [List.length_drop, List.length_take]; rfl)) ?_; (with_reducible refine (longcaselaw02_shown.calls  t211 _ A2.out (by first | exact hG | exact hG.drewN _ | exact (hG.drewN _).drewN _)).mono ?_); rintro e w' ⟨rfl, ⟨nd, rfl⟩⟩; refine ⟨_, rfl, ?_⟩))
    go_ret
    exact ⟨by first | rfl | (simp; done) | (simp [*]; done), by repeat (first | exact Drawn0.refl _ | apply Drawn0.step)⟩
  · rw [if_neg c3] at H
    have c3b0 : decide (2147483247 < (wrap64 (a0))) = false := decide_eq_false c3
    clear c3
    replace H := Option.bind_eq_some_iff.mp H
    obtain ⟨⟨t212, t213⟩, A40, H⟩ := H
    replace H : ((civil_Days.f (wrap64 ((wrap64 (a0)) + 1)) 1 1).bind fun bt214 => ((civil_Days.f (wrap64 ((wrap64 (a0)) + 400)) 1 1).bind fun bt216 => ((civil_Yearday.f (wrap64 (a0)) 12 31).bind fun bt218 => (if (Int.tmod (wrap64 (a0)) 4) = 0 then (if (Int.tmod (wrap64 (a0)) 100) = 0 then (longcaselaw02_CivilYears.j0 k t211 (wrap64 (a0)) t212 t213 bt214.1 bt214.2 bt216.1 bt216.2 bt218.1 bt218.2 365 ((Int.tmod (wrap64 (a0)) 400) == 0)) else (longcaselaw02_CivilYears.j0 k t211 (wrap64 (a0)) t212 t213 bt214.1 bt214.2 bt216.1 bt216.2 bt218.1 bt218.2 365 true)) else (longcaselaw02_CivilYears.j0 k t211 (wrap64 (a0)) t212 t213 bt214.1 bt214.2 bt216.1 bt216.2 bt218.1 bt218.2 365 ((Int.tmod (wrap64 (a0)) 400) == 0)))))) = some r := H
    have A4 := Aside0.mk A40
    clear A40
    replace H := Option.bind_eq_some_iff.mp H
    obtain ⟨⟨t214, t215⟩, A50, H⟩ := H
    replace H : ((civil_Days.f (wrap64 ((wrap64 (a0)) + 400)) 1 1).bind fun bt216 => ((civil_Yearday.f (wrap64 (a0)) 12 31).bind fun bt218 => (if (Int.tmod (wrap64 (a0)) 4) = 0 then (if (Int.tmod (wrap64 (a0)) 100) = 0 then (longcaselaw02_CivilYears.j0 k t211 (wrap64 (a0)) t212 t213 t214 t215 bt216.1 bt216.2 bt218.1 bt218.2 365 ((Int.tmod (wrap64 (a0)) 400) == 0)) else (longcaselaw02_CivilYears.j0 k t211 (wrap64 (a0)) t212 t213 t214 t215 bt216.1 bt216.2 bt218.1 bt218.2 365 true)) else (longcaselaw02_CivilYears.j0 k t211 (wrap64 (a0)) t212 t213 t214 t215 bt216.1 bt216.2 bt218.1 bt218.2 365 ((Int.tmod (wrap64 (a0)) 400) == 0))))) = some r := H
    have A5 := Aside0.mk A50
    clear A50
    replace H := Option.bind_eq_some_iff.mp H
    obtain ⟨⟨t216, t217⟩, A60, H⟩ := H
    replace H : ((civil_Yearday.f (wrap64 (a0)) 12 31).bind fun bt218 => (if (Int.tmod (wrap64 (a0)) 4) = 0 then (if (Int.tmod (wrap64 (a0)) 100) = 0 then (longcaselaw02_CivilYears.j0 k t211 (wrap64 (a0)) t212 t213 t214 t215 t216 t217 bt218.1 bt218.2 365 ((Int.tmod (wrap64 (a0)) 400) == 0)) else (longcaselaw02_CivilYears.j0 k t211 (wrap64 (a0)) t212 t213 t214 t215 t216 t217 bt218.1 bt218.2 365 true)) else (longcaselaw02_CivilYears.j0 k t211 (wrap64 (a0)) t212 t213 t214 t215 t216 t217 bt218.1 bt218.2 365 ((Int.tmod (wrap64 (a0)) 400) == 0)))) = some r := H
    have A6 := Aside0.mk A60
    clear A60
    replace H := Option.bind_eq_some_iff.mp H
    obtain ⟨⟨t218, t219⟩, A70, H⟩ := H
    replace H : (if (Int.tmod (wrap64 (a0)) 4) = 0 then (if (Int.tmod (wrap64 (a0)) 100) = 0 then (longcaselaw02_CivilYears.j0 k t211 (wrap64 (a0)) t212 t213 t214 t215 t216 t217 t218 t219 365 ((Int.tmod (wrap64 (a0)) 400) == 0)) else (longcaselaw02_CivilYears.j0 k t211 (wrap64 (a0)) t212 t213 t214 t215 t216 t217 t218 t219 365 true)) else (longcaselaw02_CivilYears.j0 k t211 (wrap64 (a0)) t212 t213 t214 t215 t216 t217 t218 t219 365 ((Int.tmod (wrap64 (a0)) 400) == 0))) = some r := H
    have A7 := Aside0.mk A70
    clear A70
    have HC8 := Aside0.mk H
    clear H
    go_enter Tryd.func6, Tryd.ntmps6
    go_upto_region 10 with (first | ((with_reducible refine gate_callee (f := 11) rfl ?_); refine goesL_ (some 16) rfl rfl Tryd.func11 (by kernel_rfl) rfl #[] rfl (by (try simp only [List.map_toArray, List.map_cons, List.map_nil]); first | done | rfl | (simp only [List.length_drop, List.length_take]; rfl)) ?_; (with_reducible refine (longcaselaw02_shown.calls  t211 _ A2.out (by first | exact hG | exact hG.drewN _ | exact (hG.drewN _).drewN _)).mono ?_); rintro e w' ⟨rfl, ⟨nd, rfl⟩⟩; refine ⟨_, rfl, ?_⟩) | ((with_reducible refine gate_callee (f := 13) rfl ?_); refine goesL_ (some 24) rfl rfl Tryd.func13 (by kernel_rfl) rfl #[.int .i64 (wrap64 (a0)), .int .i64 1, .int .i64 1] rfl (by (try simp only [List.map_toArray, List.map_cons, List.map_nil]); first | done | rfl | (simp only [List.length_drop, List.length_take]; rfl)) ?_; (with_reducible refine (civil_Days.calls (wrap64 (a0)) 1 1 t212 t213 _ A4.out (by first | exact hG | exact hG.drewN _ | exact (hG.drewN _).drewN _)).mono ?_); rintro e w' ⟨rfl, ⟨nd, rfl⟩⟩; refine ⟨_, rfl, ?_⟩) | ((with_reducible refine gate_callee (f := 13) rfl ?_); refine goesL_ (some 30) rfl rfl Tryd.func13 (by kernel_rfl) rfl #[.int .i64 (wrap64 ((wrap64 (a0)) + 1)), .int .i64 1, .int .i64 1] rfl (by (try simp only [List.map_toArray, List.map_cons, List.map_nil]); first | done | rfl | (simp only [List.length_drop, List.length_take]; rfl)) ?_; (with_reducible refine (civil_Days.calls (wrap64 ((wrap64 (a0)) + 1)) 1 1 t214 t215 _ A5.out (by first | exact hG | exact hG.drewN _ | exact (hG.drewN _).drewN _)).mono ?_); rintro e w' ⟨rfl, ⟨nd, rfl⟩⟩; refine ⟨_, rfl, ?_⟩) | ((with_reducible refine gate_callee (f := 13) rfl ?_); refine goesL_ (some 36) rfl rfl Tryd.func13 (by kernel_rfl) rfl #[.int .i64 (wrap64 ((wrap64 (a0)) + 400)), .int .i64 1, .int .i64 1] rfl (by (try simp only [List.map_toArray, List.map_cons, List.map_nil]); first | done | rfl | (simp only [List.length_drop, List.length_take]; rfl)) ?_; (with_reducible refine (civil_Days.calls (wrap64 ((wrap64 (a0)) + 400)) 1 1 t216 t217 _ A6.out (by first | exact hG | exact hG.drewN _ | exact (hG.drewN _).drewN _)).mono ?_); rintro e w' ⟨rfl, ⟨nd, rfl⟩⟩; refine ⟨_, rfl, ?_⟩) | ((with_reducible refine gate_callee (f := 14) rfl ?_); refine goesL_ (some 41) rfl rfl Tryd.func14 (by kernel_rfl) rfl #[.int .i64 (wrap64 (a0)), .int .i64 12, .int .i64 31] rfl (by (try simp only [List.map_toArray, List.map_cons, List.map_nil]); first | done | rfl | (simp only [List.length_drop, List.length_take]; rfl)) ?_; (with_reducible refine (civil_Yearday.calls (wrap64 (a0)) 12 31 t218 t219 _ A7.out (by first | exact hG | exact hG.drewN _ | exact (hG.drewN _).drewN _)).mono ?_); rintro e w' ⟨rfl, ⟨nd, rfl⟩⟩; refine ⟨_, rfl, ?_⟩))
    (try simp only [Act.put, List.setIfInBounds_toArray, List.set_cons_zero, List.set_cons_succ])
    go_cut [56] (fun v56 wc => ∃ (kq : Nat) (x56_7 : Bool), v56 = .bool x56_7 ∧ Aside0 (longcaselaw02_CivilYears.j0 kq t211 (wrap64 (a0)) t212 t213 t214 t215 t216 t217 t218 t219 365 x56_7 = some r) ∧ Aside0 (kq ≤ k) ∧ Drawn0 w wc)
    case first =>
      have H := HC8.out
      clear HC8
      by_cases c9 : (Int.tmod (wrap64 (a0)) 4) = 0
      · rw [if_pos c9] at H
        have c9b0 : ((Int.tmod (wrap64 (a0)) 4) == 0) = true := beq_iff_eq.mpr c9
        have c9b1 : ((Int.tmod (wrap64 (a0)) 4) != 0) = false := bne_eq_false_iff_eq.mpr c9
        clear c9
        (first | rw [c9b0] | (simp only [i64_w, i32_w]; rw [c9b0]) | skip)
        by_cases c10 : (Int.tmod (wrap64 (a0)) 100) = 0
        · rw [if_pos c10] at H
          have c10b0 : ((Int.tmod (wrap64 (a0)) 100) == 0) = true := beq_iff_eq.mpr c10
          have c10b1 : ((Int.tmod (wrap64 (a0)) 100) != 0) = false := bne_eq_false_iff_eq.mpr c10
          clear c10
          have H' := Aside0.mk H
          clear H
          go_wp2
          go_meet
          case rel => exact ⟨_, (((Int.tmod (wrap64 (a0)) 400) == 0)), (by first | rfl | (simp; done) | (simp [*]; done)), H', ⟨by first | omega | exact Nat.le_refl _⟩, by repeat (first | exact Drawn0.refl _ | apply Drawn0.step)⟩
        · rw [if_neg c10] at H
          have c10b0 : ((Int.tmod (wrap64 (a0)) 100) == 0) = false := beq_eq_false_iff_ne.mpr c10
          have c10b1 : ((Int.tmod (wrap64 (a0)) 100) != 0) = true := bne_iff_ne.mpr c10
          have H' := Aside0.mk H
          clear H
          go_wp2
          go_meet
          case rel => exact ⟨_, (true), (by first | rfl | (simp; done) | (simp [*]; done)), H', ⟨by first | omega | exact Nat.le_refl _⟩, by repeat (first | exact Drawn0.refl _ | apply Drawn0.step)⟩
      · rw [if_neg c9] at H
        have c9b0 : ((Int.tmod (wrap64 (a0)) 4) == 0) = false := beq_eq_false_iff_ne.mpr c9
        have c9b1 : ((Int.tmod (wrap64 (a0)) 4) != 0) = true := bne_iff_ne.mpr c9
        (first | rw [c9b0] | (simp only [i64_w, i32_w]; rw [c9b0]) | skip)
        have H' := Aside0.mk H
        clear H
        go_wp2
        go_meet
        case rel => exact ⟨_, (((Int.tmod (wrap64 (a0)) 400) == 0)), (by first | rfl | (simp; done) | (simp [*]; done)), H', ⟨by first | omega | exact Nat.le_refl _⟩, by repeat (first | exact Drawn0.refl _ | apply Drawn0.step)⟩
    case rest =>
      clear HC8
      try clear c1
      try clear p2
      try clear c3
      try clear c3b0
      try clear c6
      try clear p6
      try clear c9
      try clear c9b0
      try clear c9b1
      try clear c10
      try clear c10b0
      try clear c10b1
      obtain ⟨kq, x56_7, rfl, HA, HJ7, ⟨mc7, rfl⟩⟩ := hcut
      cases kq with
      | zero => exact absurd HA.out (by simp [longcaselaw02_CivilYears.j0])
      | succ kj7 =>
        have H := HA.out
        clear HA
        simp only [longcaselaw02_CivilYears.j0] at H
        have HC11 := Aside0.mk H
        clear H
        go_upto_if 56 with (fail)
        go_cut [13] (fun v13 wc => ∃ (kq : Nat) (x13_10 : Int), v13 = .int .i64 x13_10 ∧ Aside0 (longcaselaw02_CivilYears.j1 kq t211 (wrap64 (a0)) t212 t213 t214 t215 t216 t217 t218 t219 x13_10 = some r) ∧ Aside0 (kq ≤ kj7) ∧ Drawn0 w wc)
        case first =>
          have H := HC11.out
          clear HC11
          by_cases c12 : x56_7 = true
          · subst c12
            have H1 : (longcaselaw02_CivilYears.j1 kj7 t211 (wrap64 (a0)) t212 t213 t214 t215 t216 t217 t218 t219 366) = some r := by rw [if_pos rfl] at H; exact H
            clear H
            have H := H1
            clear H1
            have H' := Aside0.mk H
            clear H
            go_wp2
            go_meet
            case rel => exact ⟨_, (366), (by first | rfl | (simp; done) | (simp [*]; done)), H', ⟨by have := HJ7.out; first | omega | exact Nat.le_refl _⟩, by repeat (first | exact Drawn0.refl _ | apply Drawn0.step)⟩
          · replace c12 := Bool.eq_false_iff.mpr c12
            subst c12
            have H1 : (longcaselaw02_CivilYears.j1 kj7 t211 (wrap64 (a0)) t212 t213 t214 t215 t216 t217 t218 t219 365) = some r := by rw [if_neg (show ¬ (false = true) by decide)] at H; exact H
            clear H
            have H := H1
            clear H1
            have H' := Aside0.mk H
            clear H
            go_wp2
            go_meet
            case rel => exact ⟨_, (365), (by first | rfl | (simp; done) | (simp [*]; done)), H', ⟨by have := HJ7.out; first | omega | exact Nat.le_refl _⟩, by repeat (first | exact Drawn0.refl _ | apply Drawn0.step)⟩
        case rest =>
          clear HC11
          try clear c1
          try clear p2
          try clear c3
          try clear c3b0
          try clear c6
          try clear p6
          try clear c7
          try clear c9
          try clear c9b0
          try clear c9b1
          try clear c10
          try clear c10b0
          try clear c10b1
          try clear c11
          try clear c12
          try clear p2
          try clear p6
          obtain ⟨kq, x13_10, rfl, HA, HJ10, ⟨mc10, rfl⟩⟩ := hcut
          cases kq with
          | zero => exact absurd HA.out (by simp [longcaselaw02_CivilYears.j1])
          | succ kj10 =>
            have H := HA.out
            clear HA
            simp only [longcaselaw02_CivilYears.j1] at H
            have H' := Aside0.mk H
            clear H
            go_wp2
            go_loopg [14, 15] kj10 (fun kq v14 v15 w' => ∃ (x14_3 : Int) (x15_3 : Int), v14 = .int .i64 x14_3 ∧ v15 = .int .i64 x15_3 ∧ Aside0 (longcaselaw02_CivilYears.l0 kq t211 (wrap64 (a0)) t212 t213 t214 t215 t216 t217 t218 t219 x13_10 x14_3 x15_3 = some r) ∧ Aside0 (kq ≤ kj10) ∧ Drawn0 w w')
            case atStart => exact ⟨(0), (1), (by first | rfl | (simp; done) | (simp [*]; done)), (by first | rfl | (simp; done) | (simp [*]; done)), H', ⟨Nat.le_refl _⟩, by repeat (first | exact Drawn0.refl _ | apply Drawn0.step)⟩
            case round =>
              clear H'
              try clear c1
              try clear p2
              try clear c3
              try clear c3b0
              try clear c6
              try clear p6
              try clear c7
              try clear c9
              try clear c9b0
              try clear c9b1
              try clear c10
              try clear c10b0
              try clear c10b1
              try clear c11
              try clear c12
              try clear p2
              try clear p6
              obtain ⟨x14_3, x15_3, rfl, rfl, HA, HK3, ⟨m3, rfl⟩⟩ := hrel
              cases gk with
              | zero => exact absurd HA.out (by simp [longcaselaw02_CivilYears.l0])
              | succ k3 =>
                have H := HA.out
                clear HA
                simp only [longcaselaw02_CivilYears.l0] at H
                by_cases c13 : x15_3 ≤ 12
                · rw [if_pos c13] at H
                  have c13b0 : decide (x15_3 ≤ 12) = true := decide_eq_true c13
                  clear c13
                  replace H := Option.bind_eq_some_iff.mp H
                  obtain ⟨t220, A140, H⟩ := H
                  replace H : (longcaselaw02_CivilYears.l0 k3 t211 (wrap64 (a0)) t212 t213 t214 t215 t216 t217 t218 t219 x13_10 (wrap64 (x14_3 + t220)) (wrap64 (x15_3 + 1))) = some r := H
                  have A14 := Aside0.mk A140
                  clear A140
                  have H' := Aside0.mk H
                  clear H
                  go_wp2_with (first | ((with_reducible refine gate_callee (f := 18) rfl ?_); refine goesL_ (some 64) rfl rfl Tryd.func18 (by kernel_rfl) rfl #[.int .i64 (wrap64 (a0)), .int .i64 x15_3] rfl (by (try simp only [List.map_toArray, List.map_cons, List.map_nil]); first | done | rfl | (simp only [List.length_drop, List.length_take]; rfl)) ?_; (with_reducible refine (civil_Length.calls (wrap64 (a0)) x15_3 t220 _ A14.out (by first | exact hG | exact hG.drewN _ | exact (hG.drewN _).drewN _)).mono ?_); rintro e w' ⟨rfl, ⟨nd, rfl⟩⟩; refine ⟨_, rfl, ?_⟩))
                  go_roundg k3
                  case measure => have := HJ7.out; have := HJ10.out; have := HK3.out; omega
                  case rel => exact ⟨(wrap64 (x14_3 + t220)), (wrap64 (x15_3 + 1)), (by first | rfl | (simp; done) | (simp [*]; done)), (by first | rfl | (simp; done) | (simp [*]; done)), H', ⟨by have := HJ7.out; have := HJ10.out; have := HK3.out; omega⟩, by repeat (first | exact Drawn0.refl _ | apply Drawn0.step)⟩
                · rw [if_neg c13] at H
                  have c13b0 : decide (x15_3 ≤ 12) = false := decide_eq_false c13
                  clear c13
                  by_cases c15 : t211 = true
                  · subst c15
                    have H1 : (if t213 = 0 then (if t215 = 0 then (if t217 = 0 then (if t219 = 0 then (if (wrap64 (t214 - t212)) = x13_10 then (if (wrap64 (t216 - t212)) = 146097 then (if t218 = (wrap64 (x13_10 - 1)) then (if x14_3 = x13_10 then ((civil_Leap.f (wrap64 (a0))).bind fun t221 => (some (t221 == (x13_10 == 366)))) else (some false)) else (some false)) else (some false)) else (some false)) else (some false)) else (some false)) else (some false)) else (some false)) = some r := by rw [if_pos rfl] at H; exact H
                    clear H
                    have H := H1
                    clear H1
                    by_cases c16 : t213 = 0
                    · rw [if_pos c16] at H
                      have c16b0 : (t213 == 0) = true := beq_iff_eq.mpr c16
                      have c16b1 : (t213 != 0) = false := bne_eq_false_iff_eq.mpr c16
                      clear c16
                      by_cases c17 : t215 = 0
                      · rw [if_pos c17] at H
                        have c17b0 : (t215 == 0) = true := beq_iff_eq.mpr c17
                        have c17b1 : (t215 != 0) = false := bne_eq_false_iff_eq.mpr c17
                        clear c17
                        by_cases c18 : t217 = 0
                        · rw [if_pos c18] at H
                          have c18b0 : (t217 == 0) = true := beq_iff_eq.mpr c18
                          have c18b1 : (t217 != 0) = false := bne_eq_false_iff_eq.mpr c18
                          clear c18
                          by_cases c19 : t219 = 0
                          · rw [if_pos c19] at H
                            have c19b0 : (t219 == 0) = true := beq_iff_eq.mpr c19
                            have c19b1 : (t219 != 0) = false := bne_eq_false_iff_eq.mpr c19
                            clear c19
                            by_cases c20 : (wrap64 (t214 - t212)) = x13_10
                            · rw [if_pos c20] at H
                              have c20b0 : ((wrap64 (t214 - t212)) == x13_10) = true := beq_iff_eq.mpr c20
                              have c20b1 : ((wrap64 (t214 - t212)) != x13_10) = false := bne_eq_false_iff_eq.mpr c20
                              clear c20
                              by_cases c21 : (wrap64 (t216 - t212)) = 146097
                              · rw [if_pos c21] at H
                                have c21b0 : ((wrap64 (t216 - t212)) == 146097) = true := beq_iff_eq.mpr c21
                                have c21b1 : ((wrap64 (t216 - t212)) != 146097) = false := bne_eq_false_iff_eq.mpr c21
                                clear c21
                                by_cases c22 : t218 = (wrap64 (x13_10 - 1))
                                · rw [if_pos c22] at H
                                  have c22b0 : (t218 == (wrap64 (x13_10 - 1))) = true := beq_iff_eq.mpr c22
                                  have c22b1 : (t218 != (wrap64 (x13_10 - 1))) = false := bne_eq_false_iff_eq.mpr c22
                                  clear c22
                                  by_cases c23 : x14_3 = x13_10
                                  · rw [if_pos c23] at H
                                    have c23b0 : (x14_3 == x13_10) = true := beq_iff_eq.mpr c23
                                    have c23b1 : (x14_3 != x13_10) = false := bne_eq_false_iff_eq.mpr c23
                                    clear c23
                                    replace H := Option.bind_eq_some_iff.mp H
                                    obtain ⟨t221, A240, H⟩ := H
                                    replace H : (some (t221 == (x13_10 == 366))) = some r := H
                                    have A24 := Aside0.mk A240
                                    clear A240
                                    obtain rfl := Option.some.inj H
                                    go_wp2_with (first | (go_at_call 16; (with_reducible refine (civil_Leap.calls (wrap64 (a0)) t221 _ A24.out (by first | exact hG | exact hG.drewN _ | exact (hG.drewN _).drewN _)).mono ?_); rintro e w' ⟨rfl, ⟨nd, rfl⟩⟩))
                                    go_ret
                                    exact ⟨by first | rfl | (simp; done) | (simp [*]; done), by repeat (first | exact Drawn0.refl _ | apply Drawn0.step)⟩
                                  · rw [if_neg c23] at H
                                    have c23b0 : (x14_3 == x13_10) = false := beq_eq_false_iff_ne.mpr c23
                                    have c23b1 : (x14_3 != x13_10) = true := bne_iff_ne.mpr c23
                                    obtain rfl := Option.some.inj H
                                    go_wp2
                                    go_ret
                                    exact ⟨by first | rfl | (simp; done) | (simp [*]; done), by repeat (first | exact Drawn0.refl _ | apply Drawn0.step)⟩
                                · rw [if_neg c22] at H
                                  have c22b0 : (t218 == (wrap64 (x13_10 - 1))) = false := beq_eq_false_iff_ne.mpr c22
                                  have c22b1 : (t218 != (wrap64 (x13_10 - 1))) = true := bne_iff_ne.mpr c22
                                  obtain rfl := Option.some.inj H
                                  go_wp2
                                  go_ret
                                  exact ⟨by first | rfl | (simp; done) | (simp [*]; done), by repeat (first | exact Drawn0.refl _ | apply Drawn0.step)⟩
                              · rw [if_neg c21] at H
                                have c21b0 : ((wrap64 (t216 - t212)) == 146097) = false := beq_eq_false_iff_ne.mpr c21
                                have c21b1 : ((wrap64 (t216 - t212)) != 146097) = true := bne_iff_ne.mpr c21
                                obtain rfl := Option.some.inj H
                                go_wp2
                                go_ret
                                exact ⟨by first | rfl | (simp; done) | (simp [*]; done), by repeat (first | exact Drawn0.refl _ | apply Drawn0.step)⟩
                            · rw [if_neg c20] at H
                              have c20b0 : ((wrap64 (t214 - t212)) == x13_10) = false := beq_eq_false_iff_ne.mpr c20
                              have c20b1 : ((wrap64 (t214 - t212)) != x13_10) = true := bne_iff_ne.mpr c20
                              obtain rfl := Option.some.inj H
                              go_wp2
                              go_ret
                              exact ⟨by first | rfl | (simp; done) | (simp [*]; done), by repeat (first | exact Drawn0.refl _ | apply Drawn0.step)⟩
                          · rw [if_neg c19] at H
                            have c19b0 : (t219 == 0) = false := beq_eq_false_iff_ne.mpr c19
                            have c19b1 : (t219 != 0) = true := bne_iff_ne.mpr c19
                            obtain rfl := Option.some.inj H
                            go_wp2
                            go_ret
                            exact ⟨by first | rfl | (simp; done) | (simp [*]; done), by repeat (first | exact Drawn0.refl _ | apply Drawn0.step)⟩
                        · rw [if_neg c18] at H
                          have c18b0 : (t217 == 0) = false := beq_eq_false_iff_ne.mpr c18
                          have c18b1 : (t217 != 0) = true := bne_iff_ne.mpr c18
                          obtain rfl := Option.some.inj H
                          go_wp2
                          go_ret
                          exact ⟨by first | rfl | (simp; done) | (simp [*]; done), by repeat (first | exact Drawn0.refl _ | apply Drawn0.step)⟩
                      · rw [if_neg c17] at H
                        have c17b0 : (t215 == 0) = false := beq_eq_false_iff_ne.mpr c17
                        have c17b1 : (t215 != 0) = true := bne_iff_ne.mpr c17
                        obtain rfl := Option.some.inj H
                        go_wp2
                        go_ret
                        exact ⟨by first | rfl | (simp; done) | (simp [*]; done), by repeat (first | exact Drawn0.refl _ | apply Drawn0.step)⟩
                    · rw [if_neg c16] at H
                      have c16b0 : (t213 == 0) = false := beq_eq_false_iff_ne.mpr c16
                      have c16b1 : (t213 != 0) = true := bne_iff_ne.mpr c16
                      obtain rfl := Option.some.inj H
                      go_wp2
                      go_ret
                      exact ⟨by first | rfl | (simp; done) | (simp [*]; done), by repeat (first | exact Drawn0.refl _ | apply Drawn0.step)⟩
                  · replace c15 := Bool.eq_false_iff.mpr c15
                    subst c15
                    have H1 : (some false) = some r := by rw [if_neg (show ¬ (false = true) by decide)] at H; exact H
                    clear H
                    have H := H1
                    clear H1
                    obtain rfl := Option.some.inj H
                    go_wp2
                    go_ret
                    exact ⟨by first | rfl | (simp; done) | (simp [*]; done), by repeat (first | exact Drawn0.refl _ | apply Drawn0.step)⟩

/-- THE ONE PURE STATEMENT of longcaselaw02_CivilYears: yours. -/
def longcaselaw02_CivilYears.Pure : Prop := ∀ (a0 : Int), (Lit.int .i32 a0).wf = true → ∃ k, longcaselaw02_CivilYears.f k a0 = some true
theorem longcaselaw02_CivilYears.walk (P : longcaselaw02_CivilYears.Pure) (a0 : Int) (w : World) (w0 : (Lit.int .i32 a0).wf = true) (hG : Glob w) :
    Calls Tryd.prog 6 #[.int .i32 a0] w fun e w' => e = .returned (.bool true) ∧ Below w.heap.size w w' := by
  obtain ⟨k, h⟩ := P a0 w0
  refine (longcaselaw02_CivilYears.calls k a0 true w h hG).mono ?_
  rintro e w' ⟨rfl, hd⟩
  exact ⟨rfl, hd.below⟩

end Go.Proofs.YtmkmopphdkgjeaaDoor.PCiv
