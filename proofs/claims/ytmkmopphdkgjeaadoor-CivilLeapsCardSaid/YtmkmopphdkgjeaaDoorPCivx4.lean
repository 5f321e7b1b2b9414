-- Written by a program of the session's out of the translation. Not trusted: Lean checks it.
import Derived.Test.YtmkmopphdkgjeaaDoorPCivx0
import Derived.Test.YtmkmopphdkgjeaaDoorPCivx1
import Derived.Test.YtmkmopphdkgjeaaDoorPCivx2
import Derived.Test.YtmkmopphdkgjeaaDoorPCivx3
namespace Go.Proofs.YtmkmopphdkgjeaaDoor.PCiv
open Go.RowKit Go.Proofs.YtmkmopphdkgjeaaDoor.Hand Go.Proofs.YtmkmopphdkgjeaaDoorW.PrintWords Go.Proofs.YtmkmopphdkgjeaaDoorW.PrintLast Go.Proofs.YtmkmopphdkgjeaaDoorW.PrintMore
attribute [local go_sem] max2_int min2_int max_two min_two max_three min_three max_four min_four   -- for this text's walks alone
set_option linter.unusedVariables false
set_option linter.unusedSimpArgs false

/-! ### longcaselaw02_CivilTells: function 3 -/
mutual
def longcaselaw02_CivilTells.j0 : Nat → Int → Int → Int → Int → Bool → Bool → Int → Int → Int → Int → Bool → Option (Bool)
  | 0, _, _, _, _, _, _, _, _, _, _, _ => none
  | k + 1, x0, x1, x2, x3, x9, x10, x11, x12, x13, x14, x63 => if x63 = true then (some false) else (if x10 = true then (if x12 = 0 then (if x14 = 0 then ((longcaseref02_Days.f k x0 x1 x2).bind fun t171 => (if x11 = t171 then ((longcaseref02_Yearday.f k x0 x1 x2).bind fun t172 => (if x13 = t172 then (longcaselaw02_CivilTells.j1 k x3 x9 false) else (longcaselaw02_CivilTells.j1 k x3 x9 true))) else (longcaselaw02_CivilTells.j1 k x3 x9 true))) else (longcaselaw02_CivilTells.j1 k x3 x9 true)) else (longcaselaw02_CivilTells.j1 k x3 x9 true)) else (if x12 = 1 then (if x14 = 1 then (if x11 = 0 then (longcaselaw02_CivilTells.j1 k x3 x9 (x13 != 0)) else (longcaselaw02_CivilTells.j1 k x3 x9 true)) else (longcaselaw02_CivilTells.j1 k x3 x9 true)) else (longcaselaw02_CivilTells.j1 k x3 x9 true)))
def longcaselaw02_CivilTells.j1 : Nat → Int → Bool → Bool → Option (Bool)
  | 0, _, _, _ => none
  | k + 1, x3, x9, x108 => if x108 = true then (some false) else ((civil_Date.f x3).bind fun bt173 => ((longcaseref02_Date.f k x3).bind fun bt177 => (if x9 = true then (if bt173.1 = bt177.1 then (if bt173.2.1 = bt177.2.1 then (if bt173.2.2.1 = bt177.2.2.1 then ((longcaseref02_E.f bt177.2.2.2 2).bind fun t181 => (if bt173.2.2.2 = t181 then ((civil_Weekday.f x3).bind fun t182 => ((longcaseref02_Weekday.f x3).bind fun t183 => (some (t182 == t183)))) else (some false))) else (some false)) else (some false)) else (some false)) else (some false))))
end
def longcaselaw02_CivilTells.f (k : Nat) (a0 : Int) (a1 : Int) (a2 : Int) (a3 : Int) : Option (Bool) := (longcaselaw02_shown.f).bind fun t160 => ((longcaseref02_Right.f k a0 a1 a2).bind fun t161 => ((civil_Days.f a0 a1 a2).bind fun bt162 => ((civil_Yearday.f a0 a1 a2).bind fun bt164 => ((civil_Right.f a0 a1 a2).bind fun t166 => (if (t166 != t161) = true then (longcaselaw02_CivilTells.j0 k a0 a1 a2 a3 t160 t161 bt162.1 bt162.2 bt164.1 bt164.2 true) else ((civil_Leap.f a0).bind fun t167 => ((longcaseref02_Leap.f a0).bind fun t168 => (if (t167 != t168) = true then (longcaselaw02_CivilTells.j0 k a0 a1 a2 a3 t160 t161 bt162.1 bt162.2 bt164.1 bt164.2 true) else ((civil_Length.f a0 a1).bind fun t169 => ((longcaseref02_Length.f k a0 a1).bind fun t170 => (longcaselaw02_CivilTells.j0 k a0 a1 a2 a3 t160 t161 bt162.1 bt162.2 bt164.1 bt164.2 (t169 != t170))))))))))))
theorem longcaselaw02_CivilTells.mono_l : ∀ k, (∀ y0 y1 y2 y3 y4 y5 y6 y7 y8 y9 y10, LeO (longcaselaw02_CivilTells.j0 k y0 y1 y2 y3 y4 y5 y6 y7 y8 y9 y10) (longcaselaw02_CivilTells.j0 (k + 1) y0 y1 y2 y3 y4 y5 y6 y7 y8 y9 y10)) ∧ (∀ y0 y1 y2, LeO (longcaselaw02_CivilTells.j1 k y0 y1 y2) (longcaselaw02_CivilTells.j1 (k + 1) y0 y1 y2))
  | 0 => ⟨fun _ _ _ _ _ _ _ _ _ _ _ r h => by simp [longcaselaw02_CivilTells.j0] at h, fun _ _ _ r h => by simp [longcaselaw02_CivilTells.j1] at h⟩
  | k + 1 => by
    obtain ⟨ih0, ih1⟩ := longcaselaw02_CivilTells.mono_l k
    refine ⟨?_, ?_⟩
    · intro y0 y1 y2 y3 y4 y5 y6 y7 y8 y9 y10
      unfold longcaselaw02_CivilTells.j0
      repeat' first
      | (with_reducible exact ih0 _ _ _ _ _ _ _ _ _ _ _)
      | (with_reducible exact ih1 _ _ _)
      | (with_reducible exact longcaseref02_Date.mono _ _)
      | (with_reducible exact longcaseref02_Days.mono _ _ _ _)
      | (with_reducible exact longcaseref02_Length.mono _ _ _)
      | (with_reducible exact longcaseref02_Right.mono _ _ _ _)
      | (with_reducible exact longcaseref02_Yearday.mono _ _ _ _)
      | (with_reducible exact LeO.refl _)
      | (with_reducible exact LeO.none _)
      | (with_reducible refine LeO.ite ?_ ?_)
      | (with_reducible refine LeO.bind ?_ (fun _ => ?_))
      | exact ih0 _ _ _ _ _ _ _ _ _ _ _
      | exact ih1 _ _ _
      | exact longcaseref02_Date.mono _ _
      | exact longcaseref02_Days.mono _ _ _ _
      | exact longcaseref02_Length.mono _ _ _
      | exact longcaseref02_Right.mono _ _ _ _
      | exact longcaseref02_Yearday.mono _ _ _ _
      | exact LeO.none _
      | refine LeO.ite ?_ ?_
      | refine LeO.bind ?_ (fun _ => ?_)
    · intro y0 y1 y2
      unfold longcaselaw02_CivilTells.j1
      repeat' first
      | (with_reducible exact ih0 _ _ _ _ _ _ _ _ _ _ _)
      | (with_reducible exact ih1 _ _ _)
      | (with_reducible exact longcaseref02_Date.mono _ _)
      | (with_reducible exact longcaseref02_Days.mono _ _ _ _)
      | (with_reducible exact longcaseref02_Length.mono _ _ _)
      | (with_reducible exact longcaseref02_Right.mono _ _ _ _)
      | (with_reducible exact longcaseref02_Yearday.mono _ _ _ _)
      | (with_reducible exact LeO.refl _)
      | (with_reducible exact LeO.none _)
      | (with_reducible refine LeO.ite ?_ ?_)
      | (with_reducible refine LeO.bind ?_ (fun _ => ?_))
      | exact ih0 _ _ _ _ _ _ _ _ _ _ _
      | exact ih1 _ _ _
      | exact longcaseref02_Date.mono _ _
      | exact longcaseref02_Days.mono _ _ _ _
      | exact longcaseref02_Length.mono _ _ _
      | exact longcaseref02_Right.mono _ _ _ _
      | exact longcaseref02_Yearday.mono _ _ _ _
      | exact LeO.none _
      | refine LeO.ite ?_ ?_
      | refine LeO.bind ?_ (fun _ => ?_)
theorem longcaselaw02_CivilTells.mono : ∀ a0 a1 a2 a3 k, LeO (longcaselaw02_CivilTells.f k a0 a1 a2 a3) (longcaselaw02_CivilTells.f (k + 1) a0 a1 a2 a3) := by
  intro a0 a1 a2 a3 k
  obtain ⟨ih0, ih1⟩ := longcaselaw02_CivilTells.mono_l k
  unfold longcaselaw02_CivilTells.f
  repeat' first
      | (with_reducible exact ih0 _ _ _ _ _ _ _ _ _ _ _)
      | (with_reducible exact ih1 _ _ _)
      | (with_reducible exact longcaseref02_Date.mono _ _)
      | (with_reducible exact longcaseref02_Days.mono _ _ _ _)
      | (with_reducible exact longcaseref02_Length.mono _ _ _)
      | (with_reducible exact longcaseref02_Right.mono _ _ _ _)
      | (with_reducible exact longcaseref02_Yearday.mono _ _ _ _)
      | (with_reducible exact LeO.refl _)
      | (with_reducible exact LeO.none _)
      | (with_reducible refine LeO.ite ?_ ?_)
      | (with_reducible refine LeO.bind ?_ (fun _ => ?_))
      | exact ih0 _ _ _ _ _ _ _ _ _ _ _
      | exact ih1 _ _ _
      | exact longcaseref02_Date.mono _ _
      | exact longcaseref02_Days.mono _ _ _ _
      | exact longcaseref02_Length.mono _ _ _
      | exact longcaseref02_Right.mono _ _ _ _
      | exact longcaseref02_Yearday.mono _ _ _ _
      | exact LeO.none _
      | refine LeO.ite ?_ ?_
      | refine LeO.bind ?_ (fun _ => ?_)
set_option maxHeartbeats 8000000 in
set_option maxRecDepth 100000 in
theorem longcaselaw02_CivilTells.calls (k : Nat) (a0 : Int) (a1 : Int) (a2 : Int) (a3 : Int) (r : Bool) (w : World) (h : longcaselaw02_CivilTells.f k a0 a1 a2 a3 = some r) : Glob w →
    Calls Tryd.prog 3 #[.int .i64 a0, .int .i64 a1, .int .i64 a2, .int .i64 a3] w fun e w' => e = .returned (.bool r) ∧ Drawn0 w w' := by
  intro hG
  have H : ((longcaselaw02_shown.f).bind fun t160 => ((longcaseref02_Right.f k a0 a1 a2).bind fun t161 => ((civil_Days.f a0 a1 a2).bind fun bt162 => ((civil_Yearday.f a0 a1 a2).bind fun bt164 => ((civil_Right.f a0 a1 a2).bind fun t166 => (if (t166 != t161) = true then (longcaselaw02_CivilTells.j0 k a0 a1 a2 a3 t160 t161 bt162.1 bt162.2 bt164.1 bt164.2 true) else ((civil_Leap.f a0).bind fun t167 => ((longcaseref02_Leap.f a0).bind fun t168 => (if (t167 != t168) = true then (longcaselaw02_CivilTells.j0 k a0 a1 a2 a3 t160 t161 bt162.1 bt162.2 bt164.1 bt164.2 true) else ((civil_Length.f a0 a1).bind fun t169 => ((longcaseref02_Length.f k a0 a1).bind fun t170 => (longcaselaw02_CivilTells.j0 k a0 a1 a2 a3 t160 t161 bt162.1 bt162.2 bt164.1 bt164.2 (t169 != t170))))))))))))) = some r := h
  clear h
  replace H := Option.bind_eq_some_iff.mp H
  obtain ⟨t160, A50, H⟩ := H
  replace H : ((longcaseref02_Right.f k a0 a1 a2).bind fun t161 => ((civil_Days.f a0 a1 a2).bind fun bt162 => ((civil_Yearday.f a0 a1 a2).bind fun bt164 => ((civil_Right.f a0 a1 a2).bind fun t166 => (if (t166 != t161) = true then (longcaselaw02_CivilTells.j0 k a0 a1 a2 a3 t160 t161 bt162.1 bt162.2 bt164.1 bt164.2 true) else ((civil_Leap.f a0).bind fun t167 => ((longcaseref02_Leap.f a0).bind fun t168 => (if (t167 != t168) = true then (longcaselaw02_CivilTells.j0 k a0 a1 a2 a3 t160 t161 bt162.1 bt162.2 bt164.1 bt164.2 true) else ((civil_Length.f a0 a1).bind fun t169 => ((longcaseref02_Length.f k a0 a1).bind fun t170 => (longcaselaw02_CivilTells.j0 k a0 a1 a2 a3 t160 t161 bt162.1 bt162.2 bt164.1 bt164.2 (t169 != t170)))))))))))) = some r := H
  have A5 := Aside0.mk A50
  clear A50
  replace H := Option.bind_eq_some_iff.mp H
  obtain ⟨t161, A60, H⟩ := H
  replace H : ((civil_Days.f a0 a1 a2).bind fun bt162 => ((civil_Yearday.f a0 a1 a2).bind fun bt164 => ((civil_Right.f a0 a1 a2).bind fun t166 => (if (t166 != t161) = true then (longcaselaw02_CivilTells.j0 k a0 a1 a2 a3 t160 t161 bt162.1 bt162.2 bt164.1 bt164.2 true) else ((civil_Leap.f a0).bind fun t167 => ((longcaseref02_Leap.f a0).bind fun t168 => (if (t167 != t168) = true then (longcaselaw02_CivilTells.j0 k a0 a1 a2 a3 t160 t161 bt162.1 bt162.2 bt164.1 bt164.2 true) else ((civil_Length.f a0 a1).bind fun t169 => ((longcaseref02_Length.f k a0 a1).bind fun t170 => (longcaselaw02_CivilTells.j0 k a0 a1 a2 a3 t160 t161 bt162.1 bt162.2 bt164.1 bt164.2 (t169 != t170))))))))))) = some r := H
  have A6 := Aside0.mk A60
  clear A60
  replace H := Option.bind_eq_some_iff.mp H
  obtain ⟨⟨t162, t163⟩, A70, H⟩ := H
  replace H : ((civil_Yearday.f a0 a1 a2).bind fun bt164 => ((civil_Right.f a0 a1 a2).bind fun t166 => (if (t166 != t161) = true then (longcaselaw02_CivilTells.j0 k a0 a1 a2 a3 t160 t161 t162 t163 bt164.1 bt164.2 true) else ((civil_Leap.f a0).bind fun t167 => ((longcaseref02_Leap.f a0).bind fun t168 => (if (t167 != t168) = true then (longcaselaw02_CivilTells.j0 k a0 a1 a2 a3 t160 t161 t162 t163 bt164.1 bt164.2 true) else ((civil_Length.f a0 a1).bind fun t169 => ((longcaseref02_Length.f k a0 a1).bind fun t170 => (longcaselaw02_CivilTells.j0 k a0 a1 a2 a3 t160 t161 t162 t163 bt164.1 bt164.2 (t169 != t170)))))))))) = some r := H
  have A7 := Aside0.mk A70
  clear A70
  replace H := Option.bind_eq_some_iff.mp H
  obtain ⟨⟨t164, t165⟩, A80, H⟩ := H
  replace H : ((civil_Right.f a0 a1 a2).bind fun t166 => (if (t166 != t161) = true then (longcaselaw02_CivilTells.j0 k a0 a1 a2 a3 t160 t161 t162 t163 t164 t165 true) else ((civil_Leap.f a0).bind fun t167 => ((longcaseref02_Leap.f a0).bind fun t168 => (if (t167 != t168) = true then (longcaselaw02_CivilTells.j0 k a0 a1 a2 a3 t160 t161 t162 t163 t164 t165 true) else ((civil_Length.f a0 a1).bind fun t169 => ((longcaseref02_Length.f k a0 a1).bind fun t170 => (longcaselaw02_CivilTells.j0 k a0 a1 a2 a3 t160 t161 t162 t163 t164 t165 (t169 != t170))))))))) = some r := H
  have A8 := Aside0.mk A80
  clear A80
  have HC9 := Aside0.mk H
  clear H
  go_enter Tryd.func3, Tryd.ntmps3
  go_upto_region 5 with (first | ((with_reducible refine gate_callee (f := 11) rfl ?_); refine goesL_ (some 23) rfl rfl Tryd.func11 (by kernel_rfl) rfl #[] rfl (by (try simp only [List.map_toArray, List.map_cons, List.map_nil]); first | done | rfl | (simp only [List.length_drop, List.length_take]; rfl)) ?_; (with_reducible refine (longcaselaw02_shown.calls  t160 _ A5.out (by first | exact hG | exact hG.drewN _ | exact (hG.drewN _).drewN _)).mono ?_); rintro e w' ⟨rfl, ⟨nd, rfl⟩⟩; refine ⟨_, rfl, ?_⟩) | ((with_reducible refine gate_callee (f := 12) rfl ?_); refine goesL_ (some 27) rfl rfl Tryd.func12 (by kernel_rfl) rfl #[.int .i64 a0, .int .i64 a1, .int .i64 a2] rfl (by (try simp only [List.map_toArray, List.map_cons, List.map_nil]); first | done | rfl | (simp only [List.length_drop, List.length_take]; rfl)) ?_; (with_reducible refine (longcaseref02_Right.calls k a0 a1 a2 t161 _ A6.out (by first | exact hG | exact hG.drewN _ | exact (hG.drewN _).drewN _)).mono ?_); rintro e w' ⟨rfl, ⟨nd, rfl⟩⟩; refine ⟨_, rfl, ?_⟩) | ((with_reducible refine gate_callee (f := 13) rfl ?_); refine goesL_ (some 32) rfl rfl Tryd.func13 (by kernel_rfl) rfl #[.int .i64 a0, .int .i64 a1, .int .i64 a2] rfl (by (try simp only [List.map_toArray, List.map_cons, List.map_nil]); first | done | rfl | (simp only [List.length_drop, List.length_take]; rfl)) ?_; (with_reducible refine (civil_Days.calls a0 a1 a2 t162 t163 _ A7.out (by first | exact hG | exact hG.drewN _ | exact (hG.drewN _).drewN _)).mono ?_); rintro e w' ⟨rfl, ⟨nd, rfl⟩⟩; refine ⟨_, rfl, ?_⟩) | ((with_reducible refine gate_callee (f := 14) rfl ?_); refine goesL_ (some 39) rfl rfl Tryd.func14 (by kernel_rfl) rfl #[.int .i64 a0, .int .i64 a1, .int .i64 a2] rfl (by (try simp only [List.map_toArray, List.map_cons, List.map_nil]); first | done | rfl | (simp only [List.length_drop, List.length_take]; rfl)) ?_; (with_reducible refine (civil_Yearday.calls a0 a1 a2 t164 t165 _ A8.out (by first | exact hG | exact hG.drewN _ | exact (hG.drewN _).drewN _)).mono ?_); rintro e w' ⟨rfl, ⟨nd, rfl⟩⟩; refine ⟨_, rfl, ?_⟩))
  (try simp only [Act.put, List.setIfInBounds_toArray, List.set_cons_zero, List.set_cons_succ])
  go_cut [63] (fun v63 wc => ∃ (kq : Nat) (x63_8 : Bool), v63 = .bool x63_8 ∧ Aside0 (longcaselaw02_CivilTells.j0 kq a0 a1 a2 a3 t160 t161 t162 t163 t164 t165 x63_8 = some r) ∧ Aside0 (kq ≤ k) ∧ Drawn0 w wc)
  case first =>
    have H := HC9.out
    clear HC9
    replace H := Option.bind_eq_some_iff.mp H
    obtain ⟨t166, A100, H⟩ := H
    replace H : (if (t166 != t161) = true then (longcaselaw02_CivilTells.j0 k a0 a1 a2 a3 t160 t161 t162 t163 t164 t165 true) else ((civil_Leap.f a0).bind fun t167 => ((longcaseref02_Leap.f a0).bind fun t168 => (if (t167 != t168) = true then (longcaselaw02_CivilTells.j0 k a0 a1 a2 a3 t160 t161 t162 t163 t164 t165 true) else ((civil_Length.f a0 a1).bind fun t169 => ((longcaseref02_Length.f k a0 a1).bind fun t170 => (longcaselaw02_CivilTells.j0 k a0 a1 a2 a3 t160 t161 t162 t163 t164 t165 (t169 != t170)))))))) = some r := H
    have A10 := Aside0.mk A100
    clear A100
    by_cases c11 : (t166 != t161) = true
    · rw [if_pos c11] at H
      have c11b0 : (t166 != t161) = true := c11
      (try (have c11b1 : decide (t166 = t161) = false := by simpa using c11))
      (try (have c11b2 : (t166 == t161) = false := by simpa using c11))
      (try (have c11b3 : ¬ (t166 = t161) := by simpa using c11))
      clear c11
      (first | rw [c11b0] | (simp only [i64_w, i32_w]; rw [c11b0]) | skip)
      have H' := Aside0.mk H
      clear H
      go_wp2_with (first | ((with_reducible refine gate_callee (f := 15) rfl ?_); refine goesL_ (some 45) rfl rfl Tryd.func15 (by kernel_rfl) rfl #[.int .i64 a0, .int .i64 a1, .int .i64 a2] rfl (by (try simp only [List.map_toArray, List.map_cons, List.map_nil]); first | done | rfl | (simp only [List.length_drop, List.length_take]; rfl)) ?_; (with_reducible refine (civil_Right.calls a0 a1 a2 t166 _ A10.out (by first | exact hG | exact hG.drewN _ | exact (hG.drewN _).drewN _)).mono ?_); rintro e w' ⟨rfl, ⟨nd, rfl⟩⟩; refine ⟨_, rfl, ?_⟩))
      go_meet
      case rel => exact ⟨_, (true), (by first | rfl | (simp; done) | (simp [*]; done)), H', ⟨by first | omega | exact Nat.le_refl _⟩, by repeat (first | exact Drawn0.refl _ | apply Drawn0.step)⟩
    · rw [if_neg c11] at H
      have c11b0 : (t166 != t161) = false := by simpa using c11
      (try (have c11b1 : decide (t166 = t161) = true := by simpa using c11))
      (try (have c11b2 : (t166 == t161) = true := by simpa using c11))
      clear c11
      (first | rw [c11b0] | (simp only [i64_w, i32_w]; rw [c11b0]) | skip)
      replace H := Option.bind_eq_some_iff.mp H
      obtain ⟨t167, A120, H⟩ := H
      replace H : ((longcaseref02_Leap.f a0).bind fun t168 => (if (t167 != t168) = true then (longcaselaw02_CivilTells.j0 k a0 a1 a2 a3 t160 t161 t162 t163 t164 t165 true) else ((civil_Length.f a0 a1).bind fun t169 => ((longcaseref02_Length.f k a0 a1).bind fun t170 => (longcaselaw02_CivilTells.j0 k a0 a1 a2 a3 t160 t161 t162 t163 t164 t165 (t169 != t170)))))) = some r := H
      have A12 := Aside0.mk A120
      clear A120
      replace H := Option.bind_eq_some_iff.mp H
      obtain ⟨t168, A130, H⟩ := H
      replace H : (if (t167 != t168) = true then (longcaselaw02_CivilTells.j0 k a0 a1 a2 a3 t160 t161 t162 t163 t164 t165 true) else ((civil_Length.f a0 a1).bind fun t169 => ((longcaseref02_Length.f k a0 a1).bind fun t170 => (longcaselaw02_CivilTells.j0 k a0 a1 a2 a3 t160 t161 t162 t163 t164 t165 (t169 != t170))))) = some r := H
      have A13 := Aside0.mk A130
      clear A130
      by_cases c14 : (t167 != t168) = true
      · rw [if_pos c14] at H
        have c14b0 : (t167 != t168) = true := c14
        (try (have c14b1 : decide (t167 = t168) = false := by simpa using c14))
        (try (have c14b2 : (t167 == t168) = false := by simpa using c14))
        (try (have c14b3 : ¬ (t167 = t168) := by simpa using c14))
        clear c14
        have H' := Aside0.mk H
        clear H
        go_wp2_with (first | ((with_reducible refine gate_callee (f := 15) rfl ?_); refine goesL_ (some 45) rfl rfl Tryd.func15 (by kernel_rfl) rfl #[.int .i64 a0, .int .i64 a1, .int .i64 a2] rfl (by (try simp only [List.map_toArray, List.map_cons, List.map_nil]); first | done | rfl | (simp only [List.length_drop, List.length_take]; rfl)) ?_; (with_reducible refine (civil_Right.calls a0 a1 a2 t166 _ A10.out (by first | exact hG | exact hG.drewN _ | exact (hG.drewN _).drewN _)).mono ?_); rintro e w' ⟨rfl, ⟨nd, rfl⟩⟩; refine ⟨_, rfl, ?_⟩) | (go_at_call 16; (with_reducible refine (civil_Leap.calls a0 t167 _ A12.out (by first | exact hG | exact hG.drewN _ | exact (hG.drewN _).drewN _)).mono ?_); rintro e w' ⟨rfl, ⟨nd, rfl⟩⟩) | (go_at_call 17; (with_reducible refine (longcaseref02_Leap.calls a0 t168 _ A13.out (by first | exact hG | exact hG.drewN _ | exact (hG.drewN _).drewN _)).mono ?_); rintro e w' ⟨rfl, ⟨nd, rfl⟩⟩))
        go_meet
        case rel => exact ⟨_, (true), (by first | rfl | (simp; done) | (simp [*]; done)), H', ⟨by first | omega | exact Nat.le_refl _⟩, by repeat (first | exact Drawn0.refl _ | apply Drawn0.step)⟩
      · rw [if_neg c14] at H
        have c14b0 : (t167 != t168) = false := by simpa using c14
        (try (have c14b1 : decide (t167 = t168) = true := by simpa using c14))
        (try (have c14b2 : (t167 == t168) = true := by simpa using c14))
        clear c14
        replace H := Option.bind_eq_some_iff.mp H
        obtain ⟨t169, A150, H⟩ := H
        replace H : ((longcaseref02_Length.f k a0 a1).bind fun t170 => (longcaselaw02_CivilTells.j0 k a0 a1 a2 a3 t160 t161 t162 t163 t164 t165 (t169 != t170))) = some r := H
        have A15 := Aside0.mk A150
        clear A150
        replace H := Option.bind_eq_some_iff.mp H
        obtain ⟨t170, A160, H⟩ := H
        replace H : (longcaselaw02_CivilTells.j0 k a0 a1 a2 a3 t160 t161 t162 t163 t164 t165 (t169 != t170)) = some r := H
        have A16 := Aside0.mk A160
        clear A160
        have H' := Aside0.mk H
        clear H
        go_wp2_with (first | ((with_reducible refine gate_callee (f := 15) rfl ?_); refine goesL_ (some 45) rfl rfl Tryd.func15 (by kernel_rfl) rfl #[.int .i64 a0, .int .i64 a1, .int .i64 a2] rfl (by (try simp only [List.map_toArray, List.map_cons, List.map_nil]); first | done | rfl | (simp only [List.length_drop, List.length_take]; rfl)) ?_; (with_reducible refine (civil_Right.calls a0 a1 a2 t166 _ A10.out (by first | exact hG | exact hG.drewN _ | exact (hG.drewN _).drewN _)).mono ?_); rintro e w' ⟨rfl, ⟨nd, rfl⟩⟩; refine ⟨_, rfl, ?_⟩) | (go_at_call 16; (with_reducible refine (civil_Leap.calls a0 t167 _ A12.out (by first | exact hG | exact hG.drewN _ | exact (hG.drewN _).drewN _)).mono ?_); rintro e w' ⟨rfl, ⟨nd, rfl⟩⟩) | (go_at_call 17; (with_reducible refine (longcaseref02_Leap.calls a0 t168 _ A13.out (by first | exact hG | exact hG.drewN _ | exact (hG.drewN _).drewN _)).mono ?_); rintro e w' ⟨rfl, ⟨nd, rfl⟩⟩) | (go_at_call 18; (with_reducible refine (civil_Length.calls a0 a1 t169 _ A15.out (by first | exact hG | exact hG.drewN _ | exact (hG.drewN _).drewN _)).mono ?_); rintro e w' ⟨rfl, ⟨nd, rfl⟩⟩) | (go_at_call 19; (with_reducible refine (longcaseref02_Length.calls k a0 a1 t170 _ A16.out (by first | exact hG | exact hG.drewN _ | exact (hG.drewN _).drewN _)).mono ?_); rintro e w' ⟨rfl, ⟨nd, rfl⟩⟩))
        go_meet
        case rel => exact ⟨_, ((t169 != t170)), (by first | rfl | (simp; done) | (simp [*]; done)), H', ⟨by first | omega | exact Nat.le_refl _⟩, by repeat (first | exact Drawn0.refl _ | apply Drawn0.step)⟩
  case rest =>
    clear HC9
    try clear c1
    try clear p2
    try clear c3
    try clear c11
    try clear c11b0
    try clear c11b1
    try clear c11b2
    try clear c12
    try clear c13
    try clear c14
    try clear c14b0
    try clear c14b1
    try clear c14b2
    try clear c15
    obtain ⟨kq, x63_8, rfl, HA, HJ8, ⟨mc8, rfl⟩⟩ := hcut
    cases kq with
    | zero => exact absurd HA.out (by simp [longcaselaw02_CivilTells.j0])
    | succ kj8 =>
      have H := HA.out
      clear HA
      simp only [longcaselaw02_CivilTells.j0] at H
      by_cases c17 : x63_8 = true
      · subst c17
        have H1 : (some false) = some r := by rw [if_pos rfl] at H; exact H
        clear H
        have H := H1
        clear H1
        obtain rfl := Option.some.inj H
        go_wp2
        go_ret
        exact ⟨by first | rfl | (simp; done) | (simp [*]; done), by repeat (first | exact Drawn0.refl _ | apply Drawn0.step)⟩
      · replace c17 := Bool.eq_false_iff.mpr c17
        subst c17
        have H1 : (if t161 = true then (if t163 = 0 then (if t165 = 0 then ((longcaseref02_Days.f kj8 a0 a1 a2).bind fun t171 => (if t162 = t171 then ((longcaseref02_Yearday.f kj8 a0 a1 a2).bind fun t172 => (if t164 = t172 then (longcaselaw02_CivilTells.j1 kj8 a3 t160 false) else (longcaselaw02_CivilTells.j1 kj8 a3 t160 true))) else (longcaselaw02_CivilTells.j1 kj8 a3 t160 true))) else (longcaselaw02_CivilTells.j1 kj8 a3 t160 true)) else (longcaselaw02_CivilTells.j1 kj8 a3 t160 true)) else (if t163 = 1 then (if t165 = 1 then (if t162 = 0 then (longcaselaw02_CivilTells.j1 kj8 a3 t160 (t164 != 0)) else (longcaselaw02_CivilTells.j1 kj8 a3 t160 true)) else (longcaselaw02_CivilTells.j1 kj8 a3 t160 true)) else (longcaselaw02_CivilTells.j1 kj8 a3 t160 true))) = some r := by rw [if_neg (show ¬ (false = true) by decide)] at H; exact H
        clear H
        have H := H1
        clear H1
        have HC18 := Aside0.mk H
        clear H
        go_upto_region 7 with (fail)
        go_cut [108] (fun v108 wc => ∃ (kq : Nat) (x108_17 : Bool), v108 = .bool x108_17 ∧ Aside0 (longcaselaw02_CivilTells.j1 kq a3 t160 x108_17 = some r) ∧ Aside0 (kq ≤ kj8) ∧ Drawn0 w wc)
        case first =>
          have H := HC18.out
          clear HC18
          by_cases c19 : t161 = true
          · subst c19
            have H1 : (if t163 = 0 then (if t165 = 0 then ((longcaseref02_Days.f kj8 a0 a1 a2).bind fun t171 => (if t162 = t171 then ((longcaseref02_Yearday.f kj8 a0 a1 a2).bind fun t172 => (if t164 = t172 then (longcaselaw02_CivilTells.j1 kj8 a3 t160 false) else (longcaselaw02_CivilTells.j1 kj8 a3 t160 true))) else (longcaselaw02_CivilTells.j1 kj8 a3 t160 true))) else (longcaselaw02_CivilTells.j1 kj8 a3 t160 true)) else (longcaselaw02_CivilTells.j1 kj8 a3 t160 true)) = some r := by rw [if_pos rfl] at H; exact H
            clear H
            have H := H1
            clear H1
            by_cases c20 : t163 = 0
            · rw [if_pos c20] at H
              have c20b0 : (t163 == 0) = true := beq_iff_eq.mpr c20
              have c20b1 : (t163 != 0) = false := bne_eq_false_iff_eq.mpr c20
              clear c20
              (first | rw [c20b0] | (simp only [i64_w, i32_w]; rw [c20b0]) | skip)
              by_cases c21 : t165 = 0
              · rw [if_pos c21] at H
                have c21b0 : (t165 == 0) = true := beq_iff_eq.mpr c21
                have c21b1 : (t165 != 0) = false := bne_eq_false_iff_eq.mpr c21
                clear c21
                replace H := Option.bind_eq_some_iff.mp H
                obtain ⟨t171, A220, H⟩ := H
                replace H : (if t162 = t171 then ((longcaseref02_Yearday.f kj8 a0 a1 a2).bind fun t172 => (if t164 = t172 then (longcaselaw02_CivilTells.j1 kj8 a3 t160 false) else (longcaselaw02_CivilTells.j1 kj8 a3 t160 true))) else (longcaselaw02_CivilTells.j1 kj8 a3 t160 true)) = some r := H
                have A22 := Aside0.mk A220
                clear A220
                by_cases c23 : t162 = t171
                · rw [if_pos c23] at H
                  have c23b0 : (t162 == t171) = true := beq_iff_eq.mpr c23
                  have c23b1 : (t162 != t171) = false := bne_eq_false_iff_eq.mpr c23
                  clear c23
                  replace H := Option.bind_eq_some_iff.mp H
                  obtain ⟨t172, A240, H⟩ := H
                  replace H : (if t164 = t172 then (longcaselaw02_CivilTells.j1 kj8 a3 t160 false) else (longcaselaw02_CivilTells.j1 kj8 a3 t160 true)) = some r := H
                  have A24 := Aside0.mk A240
                  clear A240
                  by_cases c25 : t164 = t172
                  · rw [if_pos c25] at H
                    have c25b0 : (t164 == t172) = true := beq_iff_eq.mpr c25
                    have c25b1 : (t164 != t172) = false := bne_eq_false_iff_eq.mpr c25
                    clear c25
                    have H' := Aside0.mk H
                    clear H
                    go_wp2_with (first | (go_at_call 20; (with_reducible refine (longcaseref02_Days.calls kj8 a0 a1 a2 t171 _ A22.out (by first | exact hG | exact hG.drewN _ | exact (hG.drewN _).drewN _)).mono ?_); rintro e w' ⟨rfl, ⟨nd, rfl⟩⟩) | (go_at_call 21; (with_reducible refine (longcaseref02_Yearday.calls kj8 a0 a1 a2 t172 _ A24.out (by first | exact hG | exact hG.drewN _ | exact (hG.drewN _).drewN _)).mono ?_); rintro e w' ⟨rfl, ⟨nd, rfl⟩⟩))
                    go_meet
                    case rel => exact ⟨_, (false), (by first | rfl | (simp; done) | (simp [*]; done)), H', ⟨by have := HJ8.out; first | omega | exact Nat.le_refl _⟩, by repeat (first | exact Drawn0.refl _ | apply Drawn0.step)⟩
                  · rw [if_neg c25] at H
                    have c25b0 : (t164 == t172) = false := beq_eq_false_iff_ne.mpr c25
                    have c25b1 : (t164 != t172) = true := bne_iff_ne.mpr c25
                    have H' := Aside0.mk H
                    clear H
                    go_wp2_with (first | (go_at_call 20; (with_reducible refine (longcaseref02_Days.calls kj8 a0 a1 a2 t171 _ A22.out (by first | exact hG | exact hG.drewN _ | exact (hG.drewN _).drewN _)).mono ?_); rintro e w' ⟨rfl, ⟨nd, rfl⟩⟩) | (go_at_call 21; (with_reducible refine (longcaseref02_Yearday.calls kj8 a0 a1 a2 t172 _ A24.out (by first | exact hG | exact hG.drewN _ | exact (hG.drewN _).drewN _)).mono ?_); rintro e w' ⟨rfl, ⟨nd, rfl⟩⟩))
                    go_meet
                    case rel => exact ⟨_, (true), (by first | rfl | (simp; done) | (simp [*]; done)), H', ⟨by have := HJ8.out; first | omega | exact Nat.le_refl _⟩, by repeat (first | exact Drawn0.refl _ | apply Drawn0.step)⟩
                · rw [if_neg c23] at H
                  have c23b0 : (t162 == t171) = false := beq_eq_false_iff_ne.mpr c23
                  have c23b1 : (t162 != t171) = true := bne_iff_ne.mpr c23
                  have H' := Aside0.mk H
                  clear H
                  go_wp2_with (first | (go_at_call 20; (with_reducible refine (longcaseref02_Days.calls kj8 a0 a1 a2 t171 _ A22.out (by first | exact hG | exact hG.drewN _ | exact (hG.drewN _).drewN _)).mono ?_); rintro e w' ⟨rfl, ⟨nd, rfl⟩⟩))
                  go_meet
                  case rel => exact ⟨_, (true), (by first | rfl | (simp; done) | (simp [*]; done)), H', ⟨by have := HJ8.out; first | omega | exact Nat.le_refl _⟩, by repeat (first | exact Drawn0.refl _ | apply Drawn0.step)⟩
              · rw [if_neg c21] at H
                have c21b0 : (t165 == 0) = false := beq_eq_false_iff_ne.mpr c21
                have c21b1 : (t165 != 0) = true := bne_iff_ne.mpr c21
                have H' := Aside0.mk H
                clear H
                go_wp2
                go_meet
                case rel => exact ⟨_, (true), (by first | rfl | (simp; done) | (simp [*]; done)), H', ⟨by have := HJ8.out; first | omega | exact Nat.le_refl _⟩, by repeat (first | exact Drawn0.refl _ | apply Drawn0.step)⟩
            · rw [if_neg c20] at H
              have c20b0 : (t163 == 0) = false := beq_eq_false_iff_ne.mpr c20
              have c20b1 : (t163 != 0) = true := bne_iff_ne.mpr c20
              (first | rw [c20b0] | (simp only [i64_w, i32_w]; rw [c20b0]) | skip)
              have H' := Aside0.mk H
              clear H
              go_wp2
              go_meet
              case rel => exact ⟨_, (true), (by first | rfl | (simp; done) | (simp [*]; done)), H', ⟨by have := HJ8.out; first | omega | exact Nat.le_refl _⟩, by repeat (first | exact Drawn0.refl _ | apply Drawn0.step)⟩
          · replace c19 := Bool.eq_false_iff.mpr c19
            subst c19
            have H1 : (if t163 = 1 then (if t165 = 1 then (if t162 = 0 then (longcaselaw02_CivilTells.j1 kj8 a3 t160 (t164 != 0)) else (longcaselaw02_CivilTells.j1 kj8 a3 t160 true)) else (longcaselaw02_CivilTells.j1 kj8 a3 t160 true)) else (longcaselaw02_CivilTells.j1 kj8 a3 t160 true)) = some r := by rw [if_neg (show ¬ (false = true) by decide)] at H; exact H
            clear H
            have H := H1
            clear H1
            by_cases c26 : t163 = 1
            · rw [if_pos c26] at H
              have c26b0 : (t163 == 1) = true := beq_iff_eq.mpr c26
              have c26b1 : (t163 != 1) = false := bne_eq_false_iff_eq.mpr c26
              clear c26
              by_cases c27 : t165 = 1
              · rw [if_pos c27] at H
                have c27b0 : (t165 == 1) = true := beq_iff_eq.mpr c27
                have c27b1 : (t165 != 1) = false := bne_eq_false_iff_eq.mpr c27
                clear c27
                by_cases c28 : t162 = 0
                · rw [if_pos c28] at H
                  have c28b0 : (t162 == 0) = true := beq_iff_eq.mpr c28
                  have c28b1 : (t162 != 0) = false := bne_eq_false_iff_eq.mpr c28
                  clear c28
                  have H' := Aside0.mk H
                  clear H
                  go_wp2
                  go_meet
                  case rel => exact ⟨_, ((t164 != 0)), (by first | rfl | (simp; done) | (simp [*]; done)), H', ⟨by have := HJ8.out; first | omega | exact Nat.le_refl _⟩, by repeat (first | exact Drawn0.refl _ | apply Drawn0.step)⟩
                · rw [if_neg c28] at H
                  have c28b0 : (t162 == 0) = false := beq_eq_false_iff_ne.mpr c28
                  have c28b1 : (t162 != 0) = true := bne_iff_ne.mpr c28
                  have H' := Aside0.mk H
                  clear H
                  go_wp2
                  go_meet
                  case rel => exact ⟨_, (true), (by first | rfl | (simp; done) | (simp [*]; done)), H', ⟨by have := HJ8.out; first | omega | exact Nat.le_refl _⟩, by repeat (first | exact Drawn0.refl _ | apply Drawn0.step)⟩
              · rw [if_neg c27] at H
                have c27b0 : (t165 == 1) = false := beq_eq_false_iff_ne.mpr c27
                have c27b1 : (t165 != 1) = true := bne_iff_ne.mpr c27
                have H' := Aside0.mk H
                clear H
                go_wp2
                go_meet
                case rel => exact ⟨_, (true), (by first | rfl | (simp; done) | (simp [*]; done)), H', ⟨by have := HJ8.out; first | omega | exact Nat.le_refl _⟩, by repeat (first | exact Drawn0.refl _ | apply Drawn0.step)⟩
            · rw [if_neg c26] at H
              have c26b0 : (t163 == 1) = false := beq_eq_false_iff_ne.mpr c26
              have c26b1 : (t163 != 1) = true := bne_iff_ne.mpr c26
              have H' := Aside0.mk H
              clear H
              go_wp2
              go_meet
              case rel => exact ⟨_, (true), (by first | rfl | (simp; done) | (simp [*]; done)), H', ⟨by have := HJ8.out; first | omega | exact Nat.le_refl _⟩, by repeat (first | exact Drawn0.refl _ | apply Drawn0.step)⟩
        case rest =>
          clear HC18
          try clear c1
          try clear c2
          try clear p2
          try clear c3
          try clear c8
          try clear c11
          try clear c11b0
          try clear c11b1
          try clear c11b2
          try clear c12
          try clear c13
          try clear c14
          try clear c14b0
          try clear c14b1
          try clear c14b2
          try clear c15
          try clear c17
          try clear c19
          try clear c20
          try clear c20b0
          try clear c20b1
          try clear c21
          try clear c21b0
          try clear c21b1
          try clear c23
          try clear c23b0
          try clear c23b1
          try clear c25
          try clear c25b0
          try clear c25b1
          try clear c26
          try clear c26b0
          try clear c26b1
          try clear c27
          try clear c27b0
          try clear c27b1
          try clear c28
          try clear c28b0
          try clear c28b1
          try clear p2
          obtain ⟨kq, x108_17, rfl, HA, HJ17, ⟨mc17, rfl⟩⟩ := hcut
          cases kq with
          | zero => exact absurd HA.out (by simp [longcaselaw02_CivilTells.j1])
          | succ kj17 =>
            have H := HA.out
            clear HA
            simp only [longcaselaw02_CivilTells.j1] at H
            by_cases c29 : x108_17 = true
            · subst c29
              have H1 : (some false) = some r := by rw [if_pos rfl] at H; exact H
              clear H
              have H := H1
              clear H1
              obtain rfl := Option.some.inj H
              go_wp2
              go_ret
              exact ⟨by first | rfl | (simp; done) | (simp [*]; done), by repeat (first | exact Drawn0.refl _ | apply Drawn0.step)⟩
            · replace c29 := Bool.eq_false_iff.mpr c29
              subst c29
              have H1 : ((civil_Date.f a3).bind fun bt173 => ((longcaseref02_Date.f kj17 a3).bind fun bt177 => (if t160 = true then (if bt173.1 = bt177.1 then (if bt173.2.1 = bt177.2.1 then (if bt173.2.2.1 = bt177.2.2.1 then ((longcaseref02_E.f bt177.2.2.2 2).bind fun t181 => (if bt173.2.2.2 = t181 then ((civil_Weekday.f a3).bind fun t182 => ((longcaseref02_Weekday.f a3).bind fun t183 => (some (t182 == t183)))) else (some false))) else (some false)) else (some false)) else (some false)) else (some false)))) = some r := by rw [if_neg (show ¬ (false = true) by decide)] at H; exact H
              clear H
              have H := H1
              clear H1
              replace H := Option.bind_eq_some_iff.mp H
              obtain ⟨⟨t173, t174, t175, t176⟩, A300, H⟩ := H
              replace H : ((longcaseref02_Date.f kj17 a3).bind fun bt177 => (if t160 = true then (if t173 = bt177.1 then (if t174 = bt177.2.1 then (if t175 = bt177.2.2.1 then ((longcaseref02_E.f bt177.2.2.2 2).bind fun t181 => (if t176 = t181 then ((civil_Weekday.f a3).bind fun t182 => ((longcaseref02_Weekday.f a3).bind fun t183 => (some (t182 == t183)))) else (some false))) else (some false)) else (some false)) else (some false)) else (some false))) = some r := H
              have A30 := Aside0.mk A300
              clear A300
              replace H := Option.bind_eq_some_iff.mp H
              obtain ⟨⟨t177, t178, t179, t180⟩, A310, H⟩ := H
              replace H : (if t160 = true then (if t173 = t177 then (if t174 = t178 then (if t175 = t179 then ((longcaseref02_E.f t180 2).bind fun t181 => (if t176 = t181 then ((civil_Weekday.f a3).bind fun t182 => ((longcaseref02_Weekday.f a3).bind fun t183 => (some (t182 == t183)))) else (some false))) else (some false)) else (some false)) else (some false)) else (some false)) = some r := H
              have A31 := Aside0.mk A310
              clear A310
              by_cases c32 : t160 = true
              · subst c32
                have H1 : (if t173 = t177 then (if t174 = t178 then (if t175 = t179 then ((longcaseref02_E.f t180 2).bind fun t181 => (if t176 = t181 then ((civil_Weekday.f a3).bind fun t182 => ((longcaseref02_Weekday.f a3).bind fun t183 => (some (t182 == t183)))) else (some false))) else (some false)) else (some false)) else (some false)) = some r := by rw [if_pos rfl] at H; exact H
                clear H
                have H := H1
                clear H1
                by_cases c33 : t173 = t177
                · rw [if_pos c33] at H
                  have c33b0 : (t173 == t177) = true := beq_iff_eq.mpr c33
                  have c33b1 : (t173 != t177) = false := bne_eq_false_iff_eq.mpr c33
                  clear c33
                  by_cases c34 : t174 = t178
                  · rw [if_pos c34] at H
                    have c34b0 : (t174 == t178) = true := beq_iff_eq.mpr c34
                    have c34b1 : (t174 != t178) = false := bne_eq_false_iff_eq.mpr c34
                    clear c34
                    by_cases c35 : t175 = t179
                    · rw [if_pos c35] at H
                      have c35b0 : (t175 == t179) = true := beq_iff_eq.mpr c35
                      have c35b1 : (t175 != t179) = false := bne_eq_false_iff_eq.mpr c35
                      clear c35
                      replace H := Option.bind_eq_some_iff.mp H
                      obtain ⟨t181, A360, H⟩ := H
                      replace H : (if t176 = t181 then ((civil_Weekday.f a3).bind fun t182 => ((longcaseref02_Weekday.f a3).bind fun t183 => (some (t182 == t183)))) else (some false)) = some r := H
                      have A36 := Aside0.mk A360
                      clear A360
                      by_cases c37 : t176 = t181
                      · rw [if_pos c37] at H
                        have c37b0 : (t176 == t181) = true := beq_iff_eq.mpr c37
                        have c37b1 : (t176 != t181) = false := bne_eq_false_iff_eq.mpr c37
                        clear c37
                        replace H := Option.bind_eq_some_iff.mp H
                        obtain ⟨t182, A380, H⟩ := H
                        replace H : ((longcaseref02_Weekday.f a3).bind fun t183 => (some (t182 == t183))) = some r := H
                        have A38 := Aside0.mk A380
                        clear A380
                        replace H := Option.bind_eq_some_iff.mp H
                        obtain ⟨t183, A390, H⟩ := H
                        replace H : (some (t182 == t183)) = some r := H
                        have A39 := Aside0.mk A390
                        clear A390
                        obtain rfl := Option.some.inj H
                        go_wp2_with (first | ((with_reducible refine gate_callee (f := 22) rfl ?_); refine goesL_ (some 111) rfl rfl Tryd.func22 (by kernel_rfl) rfl #[.int .i64 a3] rfl (by (try simp only [List.map_toArray, List.map_cons, List.map_nil]); first | done | rfl | (simp only [List.length_drop, List.length_take]; rfl)) ?_; (with_reducible refine (civil_Date.calls a3 t173 t174 t175 t176 _ A30.out (by first | exact hG | exact hG.drewN _ | exact (hG.drewN _).drewN _)).mono ?_); rintro e w' ⟨rfl, ⟨nd, rfl⟩⟩; refine ⟨_, rfl, ?_⟩) | ((with_reducible refine gate_callee (f := 23) rfl ?_); refine goesL_ (some 118) rfl rfl Tryd.func23 (by kernel_rfl) rfl #[.int .i64 a3] rfl (by (try simp only [List.map_toArray, List.map_cons, List.map_nil]); first | done | rfl | (simp only [List.length_drop, List.length_take]; rfl)) ?_; (with_reducible refine (longcaseref02_Date.calls kj17 a3 t177 t178 t179 t180 _ A31.out (by first | exact hG | exact hG.drewN _ | exact (hG.drewN _).drewN _)).mono ?_); rintro e w' ⟨rfl, ⟨nd, rfl⟩⟩; refine ⟨_, rfl, ?_⟩) | (go_at_call 24; (with_reducible refine (longcaseref02_E.calls t180 2 t181 _ A36.out (by first | exact hG | exact hG.drewN _ | exact (hG.drewN _).drewN _)).mono ?_); rintro e w' ⟨rfl, ⟨nd, rfl⟩⟩) | (go_at_call 25; (with_reducible refine (civil_Weekday.calls a3 t182 _ A38.out (by first | exact hG | exact hG.drewN _ | exact (hG.drewN _).drewN _)).mono ?_); rintro e w' ⟨rfl, ⟨nd, rfl⟩⟩) | (go_at_call 26; (with_reducible refine (longcaseref02_Weekday.calls a3 t183 _ A39.out (by first | exact hG | exact hG.drewN _ | exact (hG.drewN _).drewN _)).mono ?_); rintro e w' ⟨rfl, ⟨nd, rfl⟩⟩))
                        go_ret
                        exact ⟨by first | rfl | (simp; done) | (simp [*]; done), by repeat (first | exact Drawn0.refl _ | apply Drawn0.step)⟩
                      · rw [if_neg c37] at H
                        have c37b0 : (t176 == t181) = false := beq_eq_false_iff_ne.mpr c37
                        have c37b1 : (t176 != t181) = true := bne_iff_ne.mpr c37
                        obtain rfl := Option.some.inj H
                        go_wp2_with (first | ((with_reducible refine gate_callee (f := 22) rfl ?_); refine goesL_ (some 111) rfl rfl Tryd.func22 (by kernel_rfl) rfl #[.int .i64 a3] rfl (by (try simp only [List.map_toArray, List.map_cons, List.map_nil]); first | done | rfl | (simp only [List.length_drop, List.length_take]; rfl)) ?_; (with_reducible refine (civil_Date.calls a3 t173 t174 t175 t176 _ A30.out (by first | exact hG | exact hG.drewN _ | exact (hG.drewN _).drewN _)).mono ?_); rintro e w' ⟨rfl, ⟨nd, rfl⟩⟩; refine ⟨_, rfl, ?_⟩) | ((with_reducible refine gate_callee (f := 23) rfl ?_); refine goesL_ (some 118) rfl rfl Tryd.func23 (by kernel_rfl) rfl #[.int .i64 a3] rfl (by (try simp only [List.map_toArray, List.map_cons, List.map_nil]); first | done | rfl | (simp only [List.length_drop, List.length_take]; rfl)) ?_; (with_reducible refine (longcaseref02_Date.calls kj17 a3 t177 t178 t179 t180 _ A31.out (by first | exact hG | exact hG.drewN _ | exact (hG.drewN _).drewN _)).mono ?_); rintro e w' ⟨rfl, ⟨nd, rfl⟩⟩; refine ⟨_, rfl, ?_⟩) | (go_at_call 24; (with_reducible refine (longcaseref02_E.calls t180 2 t181 _ A36.out (by first | exact hG | exact hG.drewN _ | exact (hG.drewN _).drewN _)).mono ?_); rintro e w' ⟨rfl, ⟨nd, rfl⟩⟩))
                        go_ret
                        exact ⟨by first | rfl | (simp; done) | (simp [*]; done), by repeat (first | exact Drawn0.refl _ | apply Drawn0.step)⟩
                    · rw [if_neg c35] at H
                      have c35b0 : (t175 == t179) = false := beq_eq_false_iff_ne.mpr c35
                      have c35b1 : (t175 != t179) = true := bne_iff_ne.mpr c35
                      obtain rfl := Option.some.inj H
                      go_wp2_with (first | ((with_reducible refine gate_callee (f := 22) rfl ?_); refine goesL_ (some 111) rfl rfl Tryd.func22 (by kernel_rfl) rfl #[.int .i64 a3] rfl (by (try simp only [List.map_toArray, List.map_cons, List.map_nil]); first | done | rfl | (simp only [List.length_drop, List.length_take]; rfl)) ?_; (with_reducible refine (civil_Date.calls a3 t173 t174 t175 t176 _ A30.out (by first | exact hG | exact hG.drewN _ | exact (hG.drewN _).drewN _)).mono ?_); rintro e w' ⟨rfl, ⟨nd, rfl⟩⟩; refine ⟨_, rfl, ?_⟩) | ((with_reducible refine gate_callee (f := 23) rfl ?_); refine goesL_ (some 118) rfl rfl Tryd.func23 (by kernel_rfl) rfl #[.int .i64 a3] rfl (by (try simp only [List.map_toArray, List.map_cons, List.map_nil]); first | done | rfl | (simp only [List.length_drop, List.length_take]; rfl)) ?_; (with_reducible refine (longcaseref02_Date.calls kj17 a3 t177 t178 t179 t180 _ A31.out (by first | exact hG | exact hG.drewN _ | exact (hG.drewN _).drewN _)).mono ?_); rintro e w' ⟨rfl, ⟨nd, rfl⟩⟩; refine ⟨_, rfl, ?_⟩))
                      go_ret
                      exact ⟨by first | rfl | (simp; done) | (simp [*]; done), by repeat (first | exact Drawn0.refl _ | apply Drawn0.step)⟩
                  · rw [if_neg c34] at H
                    have c34b0 : (t174 == t178) = false := beq_eq_false_iff_ne.mpr c34
                    have c34b1 : (t174 != t178) = true := bne_iff_ne.mpr c34
                    obtain rfl := Option.some.inj H
                    go_wp2_with (first | ((with_reducible refine gate_callee (f := 22) rfl ?_); refine goesL_ (some 111) rfl rfl Tryd.func22 (by kernel_rfl) rfl #[.int .i64 a3] rfl (by (try simp only [List.map_toArray, List.map_cons, List.map_nil]); first | done | rfl | (simp only [List.length_drop, List.length_take]; rfl)) ?_; (with_reducible refine (civil_Date.calls a3 t173 t174 t175 t176 _ A30.out (by first | exact hG | exact hG.drewN _ | exact (hG.drewN _).drewN _)).mono ?_); rintro e w' ⟨rfl, ⟨nd, rfl⟩⟩; refine ⟨_, rfl, ?_⟩) | ((with_reducible refine gate_callee (f := 23) rfl ?_); refine goesL_ (some 118) rfl rfl Tryd.func23 (by kernel_rfl) rfl #[.int .i64 a3] rfl (by (try simp only [List.map_toArray, List.map_cons, List.map_nil]); first | done | rfl | (simp only [List.length_drop, List.length_take]; rfl)) ?_; (with_reducible refine (longcaseref02_Date.calls kj17 a3 t177 t178 t179 t180 _ A31.out (by first | exact hG | exact hG.drewN _ | exact (hG.drewN _).drewN _)).mono ?_); rintro e w' ⟨rfl, ⟨nd, rfl⟩⟩; refine ⟨_, rfl, ?_⟩))
                    go_ret
                    exact ⟨by first | rfl | (simp; done) | (simp [*]; done), by repeat (first | exact Drawn0.refl _ | apply Drawn0.step)⟩
                · rw [if_neg c33] at H
                  have c33b0 : (t173 == t177) = false := beq_eq_false_iff_ne.mpr c33
                  have c33b1 : (t173 != t177) = true := bne_iff_ne.mpr c33
                  obtain rfl := Option.some.inj H
                  go_wp2_with (first | ((with_reducible refine gate_callee (f := 22) rfl ?_); refine goesL_ (some 111) rfl rfl Tryd.func22 (by kernel_rfl) rfl #[.int .i64 a3] rfl (by (try simp only [List.map_toArray, List.map_cons, List.map_nil]); first | done | rfl | (simp only [List.length_drop, List.length_take]; rfl)) ?_; (with_reducible refine (civil_Date.calls a3 t173 t174 t175 t176 _ A30.out (by first | exact hG | exact hG.drewN _ | exact (hG.drewN _).drewN _)).mono ?_); rintro e w' ⟨rfl, ⟨nd, rfl⟩⟩; refine ⟨_, rfl, ?_⟩) | ((with_reducible refine gate_callee (f := 23) rfl ?_); refine goesL_ (some 118) rfl rfl Tryd.func23 (by kernel_rfl) rfl #[.int .i64 a3] rfl (by (try simp only [List.map_toArray, List.map_cons, List.map_nil]); first | done | rfl | (simp only [List.length_drop, List.length_take]; rfl)) ?_; (with_reducible refine (longcaseref02_Date.calls kj17 a3 t177 t178 t179 t180 _ A31.out (by first | exact hG | exact hG.drewN _ | exact (hG.drewN _).drewN _)).mono ?_); rintro e w' ⟨rfl, ⟨nd, rfl⟩⟩; refine ⟨_, rfl, ?_⟩))
                  go_ret
                  exact ⟨by first | rfl | (simp; done) | (simp [*]; done), by repeat (first | exact Drawn0.refl _ | apply Drawn0.step)⟩
              · replace c32 := Bool.eq_false_iff.mpr c32
                subst c32
                have H1 : (some false) = some r := by rw [if_neg (show ¬ (false = true) by decide)] at H; exact H
                clear H
                have H := H1
                clear H1
                obtain rfl := Option.some.inj H
                go_wp2_with (first | ((with_reducible refine gate_callee (f := 22) rfl ?_); refine goesL_ (some 111) rfl rfl Tryd.func22 (by kernel_rfl) rfl #[.int .i64 a3] rfl (by (try simp only [List.map_toArray, List.map_cons, List.map_nil]); first | done | rfl | (simp only [List.length_drop, List.length_take]; rfl)) ?_; (with_reducible refine (civil_Date.calls a3 t173 t174 t175 t176 _ A30.out (by first | exact hG | exact hG.drewN _ | exact (hG.drewN _).drewN _)).mono ?_); rintro e w' ⟨rfl, ⟨nd, rfl⟩⟩; refine ⟨_, rfl, ?_⟩) | ((with_reducible refine gate_callee (f := 23) rfl ?_); refine goesL_ (some 118) rfl rfl Tryd.func23 (by kernel_rfl) rfl #[.int .i64 a3] rfl (by (try simp only [List.map_toArray, List.map_cons, List.map_nil]); first | done | rfl | (simp only [List.length_drop, List.length_take]; rfl)) ?_; (with_reducible refine (longcaseref02_Date.calls kj17 a3 t177 t178 t179 t180 _ A31.out (by first | exact hG | exact hG.drewN _ | exact (hG.drewN _).drewN _)).mono ?_); rintro e w' ⟨rfl, ⟨nd, rfl⟩⟩; refine ⟨_, rfl, ?_⟩))
                go_ret
                exact ⟨by first | rfl | (simp; done) | (simp [*]; done), by repeat (first | exact Drawn0.refl _ | apply Drawn0.step)⟩

/-- THE ONE PURE STATEMENT of longcaselaw02_CivilTells: yours. -/
def longcaselaw02_CivilTells.Pure : Prop := ∀ (a0 : Int) (a1 : Int) (a2 : Int) (a3 : Int), (Lit.int .i64 a0).wf = true → (Lit.int .i64 a1).wf = true → (Lit.int .i64 a2).wf = true → (Lit.int .i64 a3).wf = true → ∃ k, longcaselaw02_CivilTells.f k a0 a1 a2 a3 = some true
theorem longcaselaw02_CivilTells.walk (P : longcaselaw02_CivilTells.Pure) (a0 : Int) (a1 : Int) (a2 : Int) (a3 : Int) (w : World) (w0 : (Lit.int .i64 a0).wf = true) (w1 : (Lit.int .i64 a1).wf = true) (w2 : (Lit.int .i64 a2).wf = true) (w3 : (Lit.int .i64 a3).wf = true) (hG : Glob w) :
    Calls Tryd.prog 3 #[.int .i64 a0, .int .i64 a1, .int .i64 a2, .int .i64 a3] w fun e w' => e = .returned (.bool true) ∧ Below w.heap.size w w' := by
  obtain ⟨k, h⟩ := P a0 a1 a2 a3 w0 w1 w2 w3
  refine (longcaselaw02_CivilTells.calls k a0 a1 a2 a3 true w h hG).mono ?_
  rintro e w' ⟨rfl, hd⟩
  exact ⟨rfl, hd.below⟩

/-! ### longcaselaw02_CivilBack: function 4 -/
def longcaselaw02_CivilBack.j0 : Nat → Int → Int → Int → Bool → Option (Bool)
  | 0, _, _, _, _ => none
  | k + 1, x1, x2, x3, x9 => (civil_Right.f x1 x2 x3).bind fun t192 => (if t192 = true then ((civil_Days.f x1 x2 x3).bind fun bt193 => ((civil_Date.f bt193.1).bind fun bt195 => (if x9 = true then (if bt193.2 = 0 then (if bt195.2.2.2 = 0 then (if bt195.1 = x1 then (if bt195.2.1 = x2 then (some (bt195.2.2.1 == x3)) else (some false)) else (some false)) else (some false)) else (some false)) else (some false)))) else (some x9))
def longcaselaw02_CivilBack.f (k : Nat) (a0 : Int) (a1 : Int) (a2 : Int) (a3 : Int) : Option (Bool) := (longcaselaw02_shown.f).bind fun t184 => ((civil_Date.f a0).bind fun bt185 => (if bt185.2.2.2 = 0 then ((civil_Days.f bt185.1 bt185.2.1 bt185.2.2.1).bind fun bt189 => (if bt189.2 = 0 then (if bt189.1 = a0 then ((civil_Right.f bt185.1 bt185.2.1 bt185.2.2.1).bind fun t191 => (if t191 = true then (longcaselaw02_CivilBack.j0 k a1 a2 a3 t184) else (some false))) else (some false)) else (some false))) else (longcaselaw02_CivilBack.j0 k a1 a2 a3 t184)))
theorem longcaselaw02_CivilBack.mono_l : ∀ k, (∀ y0 y1 y2 y3, LeO (longcaselaw02_CivilBack.j0 k y0 y1 y2 y3) (longcaselaw02_CivilBack.j0 (k + 1) y0 y1 y2 y3))
  | 0 => fun _ _ _ _ r h => by simp [longcaselaw02_CivilBack.j0] at h
  | k + 1 => by
    have ih0 := longcaselaw02_CivilBack.mono_l k
    · intro y0 y1 y2 y3
      unfold longcaselaw02_CivilBack.j0
      repeat' first
      | (with_reducible exact ih0 _ _ _ _)
      | (with_reducible exact LeO.refl _)
      | (with_reducible exact LeO.none _)
      | (with_reducible refine LeO.ite ?_ ?_)
      | (with_reducible refine LeO.bind ?_ (fun _ => ?_))
      | exact ih0 _ _ _ _
      | exact LeO.none _
      | refine LeO.ite ?_ ?_
      | refine LeO.bind ?_ (fun _ => ?_)
theorem longcaselaw02_CivilBack.mono : ∀ a0 a1 a2 a3 k, LeO (longcaselaw02_CivilBack.f k a0 a1 a2 a3) (longcaselaw02_CivilBack.f (k + 1) a0 a1 a2 a3) := by
  intro a0 a1 a2 a3 k
  have ih0 := longcaselaw02_CivilBack.mono_l k
  unfold longcaselaw02_CivilBack.f
  repeat' first
      | (with_reducible exact ih0 _ _ _ _)
      | (with_reducible exact LeO.refl _)
      | (with_reducible exact LeO.none _)
      | (with_reducible refine LeO.ite ?_ ?_)
      | (with_reducible refine LeO.bind ?_ (fun _ => ?_))
      | exact ih0 _ _ _ _
      | exact LeO.none _
      | refine LeO.ite ?_ ?_
      | refine LeO.bind ?_ (fun _ => ?_)
set_option maxHeartbeats 8000000 in
set_option maxRecDepth 100000 in
theorem longcaselaw02_CivilBack.calls (k : Nat) (a0 : Int) (a1 : Int) (a2 : Int) (a3 : Int) (r : Bool) (w : World) (h : longcaselaw02_CivilBack.f k a0 a1 a2 a3 = some r) : Glob w →
    Calls Tryd.prog 4 #[.int .i64 a0, .int .i64 a1, .int .i64 a2, .int .i64 a3] w fun e w' => e = .returned (.bool r) ∧ Drawn0 w w' := by
  intro hG
  have H : ((longcaselaw02_shown.f).bind fun t184 => ((civil_Date.f a0).bind fun bt185 => (if bt185.2.2.2 = 0 then ((civil_Days.f bt185.1 bt185.2.1 bt185.2.2.1).bind fun bt189 => (if bt189.2 = 0 then (if bt189.1 = a0 then ((civil_Right.f bt185.1 bt185.2.1 bt185.2.2.1).bind fun t191 => (if t191 = true then (longcaselaw02_CivilBack.j0 k a1 a2 a3 t184) else (some false))) else (some false)) else (some false))) else (longcaselaw02_CivilBack.j0 k a1 a2 a3 t184)))) = some r := h
  clear h
  replace H := Option.bind_eq_some_iff.mp H
  obtain ⟨t184, A50, H⟩ := H
  replace H : ((civil_Date.f a0).bind fun bt185 => (if bt185.2.2.2 = 0 then ((civil_Days.f bt185.1 bt185.2.1 bt185.2.2.1).bind fun bt189 => (if bt189.2 = 0 then (if bt189.1 = a0 then ((civil_Right.f bt185.1 bt185.2.1 bt185.2.2.1).bind fun t191 => (if t191 = true then (longcaselaw02_CivilBack.j0 k a1 a2 a3 t184) else (some false))) else (some false)) else (some false))) else (longcaselaw02_CivilBack.j0 k a1 a2 a3 t184))) = some r := H
  have A5 := Aside0.mk A50
  clear A50
  replace H := Option.bind_eq_some_iff.mp H
  obtain ⟨⟨t185, t186, t187, t188⟩, A60, H⟩ := H
  replace H : (if t188 = 0 then ((civil_Days.f t185 t186 t187).bind fun bt189 => (if bt189.2 = 0 then (if bt189.1 = a0 then ((civil_Right.f t185 t186 t187).bind fun t191 => (if t191 = true then (longcaselaw02_CivilBack.j0 k a1 a2 a3 t184) else (some false))) else (some false)) else (some false))) else (longcaselaw02_CivilBack.j0 k a1 a2 a3 t184)) = some r := H
  have A6 := Aside0.mk A60
  clear A60
  have HC7 := Aside0.mk H
  clear H
  go_enter Tryd.func4, Tryd.ntmps4
  go_upto_if 31 with (first | ((with_reducible refine gate_callee (f := 11) rfl ?_); refine goesL_ (some 22) rfl rfl Tryd.func11 (by kernel_rfl) rfl #[] rfl (by (try simp only [List.map_toArray, List.map_cons, List.map_nil]); first | done | rfl | (simp only [List.length_drop, List.length_take]; rfl)) ?_; (with_reducible refine (longcaselaw02_shown.calls  t184 _ A5.out (by first | exact hG | exact hG.drewN _ | exact (hG.drewN _).drewN _)).mono ?_); rintro e w' ⟨rfl, ⟨nd, rfl⟩⟩; refine ⟨_, rfl, ?_⟩) | ((with_reducible refine gate_callee (f := 22) rfl ?_); refine goesL_ (some 25) rfl rfl Tryd.func22 (by kernel_rfl) rfl #[.int .i64 a0] rfl (by (try simp only [List.map_toArray, List.map_cons, List.map_nil]); first | done | rfl | (simp only [List.length_drop, List.length_take]; rfl)) ?_; (with_reducible refine (civil_Date.calls a0 t185 t186 t187 t188 _ A6.out (by first | exact hG | exact hG.drewN _ | exact (hG.drewN _).drewN _)).mono ?_); rintro e w' ⟨rfl, ⟨nd, rfl⟩⟩; refine ⟨_, rfl, ?_⟩))
  (try simp only [Act.put, List.setIfInBounds_toArray, List.set_cons_zero, List.set_cons_succ])
  go_cut [] (fun wc => ∃ (kq : Nat), Aside0 (longcaselaw02_CivilBack.j0 kq a1 a2 a3 t184 = some r) ∧ Aside0 (kq ≤ k) ∧ Drawn0 w wc)
  case first =>
    have H := HC7.out
    clear HC7
    by_cases c8 : t188 = 0
    · rw [if_pos c8] at H
      have c8b0 : (t188 == 0) = true := beq_iff_eq.mpr c8
      have c8b1 : (t188 != 0) = false := bne_eq_false_iff_eq.mpr c8
      clear c8
      (first | rw [c8b0] | (simp only [i64_w, i32_w]; rw [c8b0]) | skip)
      replace H := Option.bind_eq_some_iff.mp H
      obtain ⟨⟨t189, t190⟩, A90, H⟩ := H
      replace H : (if t190 = 0 then (if t189 = a0 then ((civil_Right.f t185 t186 t187).bind fun t191 => (if t191 = true then (longcaselaw02_CivilBack.j0 k a1 a2 a3 t184) else (some false))) else (some false)) else (some false)) = some r := H
      have A9 := Aside0.mk A90
      clear A90
      by_cases c10 : t190 = 0
      · rw [if_pos c10] at H
        have c10b0 : (t190 == 0) = true := beq_iff_eq.mpr c10
        have c10b1 : (t190 != 0) = false := bne_eq_false_iff_eq.mpr c10
        clear c10
        by_cases c11 : t189 = a0
        · rw [if_pos c11] at H
          have c11b0 : (t189 == a0) = true := beq_iff_eq.mpr c11
          have c11b1 : (t189 != a0) = false := bne_eq_false_iff_eq.mpr c11
          clear c11
          replace H := Option.bind_eq_some_iff.mp H
          obtain ⟨t191, A120, H⟩ := H
          replace H : (if t191 = true then (longcaselaw02_CivilBack.j0 k a1 a2 a3 t184) else (some false)) = some r := H
          have A12 := Aside0.mk A120
          clear A120
          by_cases c13 : t191 = true
          · subst c13
            have H1 : (longcaselaw02_CivilBack.j0 k a1 a2 a3 t184) = some r := by rw [if_pos rfl] at H; exact H
            clear H
            have H := H1
            clear H1
            have H' := Aside0.mk H
            clear H
            go_wp2_with (first | ((with_reducible refine gate_callee (f := 13) rfl ?_); refine goesL_ (some 36) rfl rfl Tryd.func13 (by kernel_rfl) rfl #[.int .i64 t185, .int .i64 t186, .int .i64 t187] rfl (by (try simp only [List.map_toArray, List.map_cons, List.map_nil]); first | done | rfl | (simp only [List.length_drop, List.length_take]; rfl)) ?_; (with_reducible refine (civil_Days.calls t185 t186 t187 t189 t190 _ A9.out (by first | exact hG | exact hG.drewN _ | exact (hG.drewN _).drewN _)).mono ?_); rintro e w' ⟨rfl, ⟨nd, rfl⟩⟩; refine ⟨_, rfl, ?_⟩) | (go_at_call 15; (with_reducible refine (civil_Right.calls t185 t186 t187 true _ A12.out (by first | exact hG | exact hG.drewN _ | exact (hG.drewN _).drewN _)).mono ?_); rintro e w' ⟨rfl, ⟨nd, rfl⟩⟩))
            go_meet
            case rel => exact ⟨_, H', ⟨by first | omega | exact Nat.le_refl _⟩, by repeat (first | exact Drawn0.refl _ | apply Drawn0.step)⟩
          · replace c13 := Bool.eq_false_iff.mpr c13
            subst c13
            have H1 : (some false) = some r := by rw [if_neg (show ¬ (false = true) by decide)] at H; exact H
            clear H
            have H := H1
            clear H1
            obtain rfl := Option.some.inj H
            go_wp2_with (first | ((with_reducible refine gate_callee (f := 13) rfl ?_); refine goesL_ (some 36) rfl rfl Tryd.func13 (by kernel_rfl) rfl #[.int .i64 t185, .int .i64 t186, .int .i64 t187] rfl (by (try simp only [List.map_toArray, List.map_cons, List.map_nil]); first | done | rfl | (simp only [List.length_drop, List.length_take]; rfl)) ?_; (with_reducible refine (civil_Days.calls t185 t186 t187 t189 t190 _ A9.out (by first | exact hG | exact hG.drewN _ | exact (hG.drewN _).drewN _)).mono ?_); rintro e w' ⟨rfl, ⟨nd, rfl⟩⟩; refine ⟨_, rfl, ?_⟩) | (go_at_call 15; (with_reducible refine (civil_Right.calls t185 t186 t187 false _ A12.out (by first | exact hG | exact hG.drewN _ | exact (hG.drewN _).drewN _)).mono ?_); rintro e w' ⟨rfl, ⟨nd, rfl⟩⟩))
            go_ret
            exact ⟨by first | rfl | (simp; done) | (simp [*]; done), by repeat (first | exact Drawn0.refl _ | apply Drawn0.step)⟩
        · rw [if_neg c11] at H
          have c11b0 : (t189 == a0) = false := beq_eq_false_iff_ne.mpr c11
          have c11b1 : (t189 != a0) = true := bne_iff_ne.mpr c11
          obtain rfl := Option.some.inj H
          go_wp2_with (first | ((with_reducible refine gate_callee (f := 13) rfl ?_); refine goesL_ (some 36) rfl rfl Tryd.func13 (by kernel_rfl) rfl #[.int .i64 t185, .int .i64 t186, .int .i64 t187] rfl (by (try simp only [List.map_toArray, List.map_cons, List.map_nil]); first | done | rfl | (simp only [List.length_drop, List.length_take]; rfl)) ?_; (with_reducible refine (civil_Days.calls t185 t186 t187 t189 t190 _ A9.out (by first | exact hG | exact hG.drewN _ | exact (hG.drewN _).drewN _)).mono ?_); rintro e w' ⟨rfl, ⟨nd, rfl⟩⟩; refine ⟨_, rfl, ?_⟩))
          go_ret
          exact ⟨by first | rfl | (simp; done) | (simp [*]; done), by repeat (first | exact Drawn0.refl _ | apply Drawn0.step)⟩
      · rw [if_neg c10] at H
        have c10b0 : (t190 == 0) = false := beq_eq_false_iff_ne.mpr c10
        have c10b1 : (t190 != 0) = true := bne_iff_ne.mpr c10
        obtain rfl := Option.some.inj H
        go_wp2_with (first | ((with_reducible refine gate_callee (f := 13) rfl ?_); refine goesL_ (some 36) rfl rfl Tryd.func13 (by kernel_rfl) rfl #[.int .i64 t185, .int .i64 t186, .int .i64 t187] rfl (by (try simp only [List.map_toArray, List.map_cons, List.map_nil]); first | done | rfl | (simp only [List.length_drop, List.length_take]; rfl)) ?_; (with_reducible refine (civil_Days.calls t185 t186 t187 t189 t190 _ A9.out (by first | exact hG | exact hG.drewN _ | exact (hG.drewN _).drewN _)).mono ?_); rintro e w' ⟨rfl, ⟨nd, rfl⟩⟩; refine ⟨_, rfl, ?_⟩))
        go_ret
        exact ⟨by first | rfl | (simp; done) | (simp [*]; done), by repeat (first | exact Drawn0.refl _ | apply Drawn0.step)⟩
    · rw [if_neg c8] at H
      have c8b0 : (t188 == 0) = false := beq_eq_false_iff_ne.mpr c8
      have c8b1 : (t188 != 0) = true := bne_iff_ne.mpr c8
      (first | rw [c8b0] | (simp only [i64_w, i32_w]; rw [c8b0]) | skip)
      have H' := Aside0.mk H
      clear H
      go_wp2
      go_meet
      case rel => exact ⟨_, H', ⟨by first | omega | exact Nat.le_refl _⟩, by repeat (first | exact Drawn0.refl _ | apply Drawn0.step)⟩
  case rest =>
    clear HC7
    try clear c1
    try clear c2
    try clear p2
    try clear c4
    try clear c8
    try clear c8b0
    try clear c8b1
    try clear c10
    try clear c10b0
    try clear c10b1
    try clear c11
    try clear c11b0
    try clear c11b1
    try clear c13
    obtain ⟨kq, HA, HJ6, ⟨mc6, rfl⟩⟩ := hcut
    cases kq with
    | zero => exact absurd HA.out (by simp [longcaselaw02_CivilBack.j0])
    | succ kj6 =>
      have H := HA.out
      clear HA
      simp only [longcaselaw02_CivilBack.j0] at H
      replace H := Option.bind_eq_some_iff.mp H
      obtain ⟨t192, A140, H⟩ := H
      replace H : (if t192 = true then ((civil_Days.f a1 a2 a3).bind fun bt193 => ((civil_Date.f bt193.1).bind fun bt195 => (if t184 = true then (if bt193.2 = 0 then (if bt195.2.2.2 = 0 then (if bt195.1 = a1 then (if bt195.2.1 = a2 then (some (bt195.2.2.1 == a3)) else (some false)) else (some false)) else (some false)) else (some false)) else (some false)))) else (some t184)) = some r := H
      have A14 := Aside0.mk A140
      clear A140
      by_cases c15 : t192 = true
      · subst c15
        have H1 : ((civil_Days.f a1 a2 a3).bind fun bt193 => ((civil_Date.f bt193.1).bind fun bt195 => (if t184 = true then (if bt193.2 = 0 then (if bt195.2.2.2 = 0 then (if bt195.1 = a1 then (if bt195.2.1 = a2 then (some (bt195.2.2.1 == a3)) else (some false)) else (some false)) else (some false)) else (some false)) else (some false)))) = some r := by rw [if_pos rfl] at H; exact H
        clear H
        have H := H1
        clear H1
        replace H := Option.bind_eq_some_iff.mp H
        obtain ⟨⟨t193, t194⟩, A160, H⟩ := H
        replace H : ((civil_Date.f t193).bind fun bt195 => (if t184 = true then (if t194 = 0 then (if bt195.2.2.2 = 0 then (if bt195.1 = a1 then (if bt195.2.1 = a2 then (some (bt195.2.2.1 == a3)) else (some false)) else (some false)) else (some false)) else (some false)) else (some false))) = some r := H
        have A16 := Aside0.mk A160
        clear A160
        replace H := Option.bind_eq_some_iff.mp H
        obtain ⟨⟨t195, t196, t197, t198⟩, A170, H⟩ := H
        replace H : (if t184 = true then (if t194 = 0 then (if t198 = 0 then (if t195 = a1 then (if t196 = a2 then (some (t197 == a3)) else (some false)) else (some false)) else (some false)) else (some false)) else (some false)) = some r := H
        have A17 := Aside0.mk A170
        clear A170
        by_cases c18 : t184 = true
        · subst c18
          have H1 : (if t194 = 0 then (if t198 = 0 then (if t195 = a1 then (if t196 = a2 then (some (t197 == a3)) else (some false)) else (some false)) else (some false)) else (some false)) = some r := by rw [if_pos rfl] at H; exact H
          clear H
          have H := H1
          clear H1
          by_cases c19 : t194 = 0
          · rw [if_pos c19] at H
            have c19b0 : (t194 == 0) = true := beq_iff_eq.mpr c19
            have c19b1 : (t194 != 0) = false := bne_eq_false_iff_eq.mpr c19
            clear c19
            by_cases c20 : t198 = 0
            · rw [if_pos c20] at H
              have c20b0 : (t198 == 0) = true := beq_iff_eq.mpr c20
              have c20b1 : (t198 != 0) = false := bne_eq_false_iff_eq.mpr c20
              clear c20
              by_cases c21 : t195 = a1
              · rw [if_pos c21] at H
                have c21b0 : (t195 == a1) = true := beq_iff_eq.mpr c21
                have c21b1 : (t195 != a1) = false := bne_eq_false_iff_eq.mpr c21
                clear c21
                by_cases c22 : t196 = a2
                · rw [if_pos c22] at H
                  have c22b0 : (t196 == a2) = true := beq_iff_eq.mpr c22
                  have c22b1 : (t196 != a2) = false := bne_eq_false_iff_eq.mpr c22
                  clear c22
                  obtain rfl := Option.some.inj H
                  go_wp2_with (first | ((with_reducible refine gate_callee (f := 15) rfl ?_); refine goesL_ (some 56) rfl rfl Tryd.func15 (by kernel_rfl) rfl #[.int .i64 a1, .int .i64 a2, .int .i64 a3] rfl (by (try simp only [List.map_toArray, List.map_cons, List.map_nil]); first | done | rfl | (simp only [List.length_drop, List.length_take]; rfl)) ?_; (with_reducible refine (civil_Right.calls a1 a2 a3 true _ A14.out (by first | exact hG | exact hG.drewN _ | exact (hG.drewN _).drewN _)).mono ?_); rintro e w' ⟨rfl, ⟨nd, rfl⟩⟩; refine ⟨_, rfl, ?_⟩) | ((with_reducible refine gate_callee (f := 13) rfl ?_); refine goesL_ (some 63) rfl rfl Tryd.func13 (by kernel_rfl) rfl #[.int .i64 a1, .int .i64 a2, .int .i64 a3] rfl (by (try simp only [List.map_toArray, List.map_cons, List.map_nil]); first | done | rfl | (simp only [List.length_drop, List.length_take]; rfl)) ?_; (with_reducible refine (civil_Days.calls a1 a2 a3 t193 t194 _ A16.out (by first | exact hG | exact hG.drewN _ | exact (hG.drewN _).drewN _)).mono ?_); rintro e w' ⟨rfl, ⟨nd, rfl⟩⟩; refine ⟨_, rfl, ?_⟩) | ((with_reducible refine gate_callee (f := 22) rfl ?_); refine goesL_ (some 68) rfl rfl Tryd.func22 (by kernel_rfl) rfl #[.int .i64 t193] rfl (by (try simp only [List.map_toArray, List.map_cons, List.map_nil]); first | done | rfl | (simp only [List.length_drop, List.length_take]; rfl)) ?_; (with_reducible refine (civil_Date.calls t193 t195 t196 t197 t198 _ A17.out (by first | exact hG | exact hG.drewN _ | exact (hG.drewN _).drewN _)).mono ?_); rintro e w' ⟨rfl, ⟨nd, rfl⟩⟩; refine ⟨_, rfl, ?_⟩))
                  go_ret
                  exact ⟨by first | rfl | (simp; done) | (simp [*]; done), by repeat (first | exact Drawn0.refl _ | apply Drawn0.step)⟩
                · rw [if_neg c22] at H
                  have c22b0 : (t196 == a2) = false := beq_eq_false_iff_ne.mpr c22
                  have c22b1 : (t196 != a2) = true := bne_iff_ne.mpr c22
                  obtain rfl := Option.some.inj H
                  go_wp2_with (first | ((with_reducible refine gate_callee (f := 15) rfl ?_); refine goesL_ (some 56) rfl rfl Tryd.func15 (by kernel_rfl) rfl #[.int .i64 a1, .int .i64 a2, .int .i64 a3] rfl (by (try simp only [List.map_toArray, List.map_cons, List.map_nil]); first | done | rfl | (simp only [List.length_drop, List.length_take]; rfl)) ?_; (with_reducible refine (civil_Right.calls a1 a2 a3 true _ A14.out (by first | exact hG | exact hG.drewN _ | exact (hG.drewN _).drewN _)).mono ?_); rintro e w' ⟨rfl, ⟨nd, rfl⟩⟩; refine ⟨_, rfl, ?_⟩) | ((with_reducible refine gate_callee (f := 13) rfl ?_); refine goesL_ (some 63) rfl rfl Tryd.func13 (by kernel_rfl) rfl #[.int .i64 a1, .int .i64 a2, .int .i64 a3] rfl (by (try simp only [List.map_toArray, List.map_cons, List.map_nil]); first | done | rfl | (simp only [List.length_drop, List.length_take]; rfl)) ?_; (with_reducible refine (civil_Days.calls a1 a2 a3 t193 t194 _ A16.out (by first | exact hG | exact hG.drewN _ | exact (hG.drewN _).drewN _)).mono ?_); rintro e w' ⟨rfl, ⟨nd, rfl⟩⟩; refine ⟨_, rfl, ?_⟩) | ((with_reducible refine gate_callee (f := 22) rfl ?_); refine goesL_ (some 68) rfl rfl Tryd.func22 (by kernel_rfl) rfl #[.int .i64 t193] rfl (by (try simp only [List.map_toArray, List.map_cons, List.map_nil]); first | done | rfl | (simp only [List.length_drop, List.length_take]; rfl)) ?_; (with_reducible refine (civil_Date.calls t193 t195 t196 t197 t198 _ A17.out (by first | exact hG | exact hG.drewN _ | exact (hG.drewN _).drewN _)).mono ?_); rintro e w' ⟨rfl, ⟨nd, rfl⟩⟩; refine ⟨_, rfl, ?_⟩))
                  go_ret
                  exact ⟨by first | rfl | (simp; done) | (simp [*]; done), by repeat (first | exact Drawn0.refl _ | apply Drawn0.step)⟩
              · rw [if_neg c21] at H
                have c21b0 : (t195 == a1) = false := beq_eq_false_iff_ne.mpr c21
                have c21b1 : (t195 != a1) = true := bne_iff_ne.mpr c21
                obtain rfl := Option.some.inj H
                go_wp2_with (first | ((with_reducible refine gate_callee (f := 15) rfl ?_); refine goesL_ (some 56) rfl rfl Tryd.func15 (by kernel_rfl) rfl #[.int .i64 a1, .int .i64 a2, .int .i64 a3] rfl (by (try simp only [List.map_toArray, List.map_cons, List.map_nil]); first | done | rfl | (simp only [List.length_drop, List.length_take]; rfl)) ?_; (with_reducible refine (civil_Right.calls a1 a2 a3 true _ A14.out (by first | exact hG | exact hG.drewN _ | exact (hG.drewN _).drewN _)).mono ?_); rintro e w' ⟨rfl, ⟨nd, rfl⟩⟩; refine ⟨_, rfl, ?_⟩) | ((with_reducible refine gate_callee (f := 13) rfl ?_); refine goesL_ (some 63) rfl rfl Tryd.func13 (by kernel_rfl) rfl #[.int .i64 a1, .int .i64 a2, .int .i64 a3] rfl (by (try simp only [List.map_toArray, List.map_cons, List.map_nil]); first | done | rfl | (simp only [List.length_drop, List.length_take]; rfl)) ?_; (with_reducible refine (civil_Days.calls a1 a2 a3 t193 t194 _ A16.out (by first | exact hG | exact hG.drewN _ | exact (hG.drewN _).drewN _)).mono ?_); rintro e w' ⟨rfl, ⟨nd, rfl⟩⟩; refine ⟨_, rfl, ?_⟩) | ((with_reducible refine gate_callee (f := 22) rfl ?_); refine goesL_ (some 68) rfl rfl Tryd.func22 (by kernel_rfl) rfl #[.int .i64 t193] rfl (by (try simp only [List.map_toArray, List.map_cons, List.map_nil]); first | done | rfl | (simp only [List.length_drop, List.length_take]; rfl)) ?_; (with_reducible refine (civil_Date.calls t193 t195 t196 t197 t198 _ A17.out (by first | exact hG | exact hG.drewN _ | exact (hG.drewN _).drewN _)).mono ?_); rintro e w' ⟨rfl, ⟨nd, rfl⟩⟩; refine ⟨_, rfl, ?_⟩))
                go_ret
                exact ⟨by first | rfl | (simp; done) | (simp [*]; done), by repeat (first | exact Drawn0.refl _ | apply Drawn0.step)⟩
            · rw [if_neg c20] at H
              have c20b0 : (t198 == 0) = false := beq_eq_false_iff_ne.mpr c20
              have c20b1 : (t198 != 0) = true := bne_iff_ne.mpr c20
              obtain rfl := Option.some.inj H
              go_wp2_with (first | ((with_reducible refine gate_callee (f := 15) rfl ?_); refine goesL_ (some 56) rfl rfl Tryd.func15 (by kernel_rfl) rfl #[.int .i64 a1, .int .i64 a2, .int .i64 a3] rfl (by (try simp only [List.map_toArray, List.map_cons, List.map_nil]); first | done | rfl | (simp only [List.length_drop, List.length_take]; rfl)) ?_; (with_reducible refine (civil_Right.calls a1 a2 a3 true _ A14.out (by first | exact hG | exact hG.drewN _ | exact (hG.drewN _).drewN _)).mono ?_); rintro e w' ⟨rfl, ⟨nd, rfl⟩⟩; refine ⟨_, rfl, ?_⟩) | ((with_reducible refine gate_callee (f := 13) rfl ?_); refine goesL_ (some 63) rfl rfl Tryd.func13 (by kernel_rfl) rfl #[.int .i64 a1, .int .i64 a2, .int .i64 a3] rfl (by (try simp only [List.map_toArray, List.map_cons, List.map_nil]); first | done | rfl | (simp only [List.length_drop, List.length_take]; rfl)) ?_; (with_reducible refine (civil_Days.calls a1 a2 a3 t193 t194 _ A16.out (by first | exact hG | exact hG.drewN _ | exact (hG.drewN _).drewN _)).mono ?_); rintro e w' ⟨rfl, ⟨nd, rfl⟩⟩; refine ⟨_, rfl, ?_⟩) | ((with_reducible refine gate_callee (f := 22) rfl ?_); refine goesL_ (some 68) rfl rfl Tryd.func22 (by kernel_rfl) rfl #[.int .i64 t193] rfl (by (try simp only [List.map_toArray, List.map_cons, List.map_nil]); first | done | rfl | (simp only [List.length_drop, List.length_take]; rfl)) ?_; (with_reducible refine (civil_Date.calls t193 t195 t196 t197 t198 _ A17.out (by first | exact hG | exact hG.drewN _ | exact (hG.drewN _).drewN _)).mono ?_); rintro e w' ⟨rfl, ⟨nd, rfl⟩⟩; refine ⟨_, rfl, ?_⟩))
              go_ret
              exact ⟨by first | rfl | (simp; done) | (simp [*]; done), by repeat (first | exact Drawn0.refl _ | apply Drawn0.step)⟩
          · rw [if_neg c19] at H
            have c19b0 : (t194 == 0) = false := beq_eq_false_iff_ne.mpr c19
            have c19b1 : (t194 != 0) = true := bne_iff_ne.mpr c19
            obtain rfl := Option.some.inj H
            go_wp2_with (first | ((with_reducible refine gate_callee (f := 15) rfl ?_); refine goesL_ (some 56) rfl rfl Tryd.func15 (by kernel_rfl) rfl #[.int .i64 a1, .int .i64 a2, .int .i64 a3] rfl (by (try simp only [List.map_toArray, List.map_cons, List.map_nil]); first | done | rfl | (simp only [List.length_drop, List.length_take]; rfl)) ?_; (with_reducible refine (civil_Right.calls a1 a2 a3 true _ A14.out (by first | exact hG | exact hG.drewN _ | exact (hG.drewN _).drewN _)).mono ?_); rintro e w' ⟨rfl, ⟨nd, rfl⟩⟩; refine ⟨_, rfl, ?_⟩) | ((with_reducible refine gate_callee (f := 13) rfl ?_); refine goesL_ (some 63) rfl rfl Tryd.func13 (by kernel_rfl) rfl #[.int .i64 a1, .int .i64 a2, .int .i64 a3] rfl (by (try simp only [List.map_toArray, List.map_cons, List.map_nil]); first | done | rfl | (simp only [List.length_drop, List.length_take]; rfl)) ?_; (with_reducible refine (civil_Days.calls a1 a2 a3 t193 t194 _ A16.out (by first | exact hG | exact hG.drewN _ | exact (hG.drewN _).drewN _)).mono ?_); rintro e w' ⟨rfl, ⟨nd, rfl⟩⟩; refine ⟨_, rfl, ?_⟩) | ((with_reducible refine gate_callee (f := 22) rfl ?_); refine goesL_ (some 68) rfl rfl Tryd.func22 (by kernel_rfl) rfl #[.int .i64 t193] rfl (by (try simp only [List.map_toArray, List.map_cons, List.map_nil]); first | done | rfl | (simp only [List.length_drop, List.length_take]; rfl)) ?_; (with_reducible refine (civil_Date.calls t193 t195 t196 t197 t198 _ A17.out (by first | exact hG | exact hG.drewN _ | exact (hG.drewN _).drewN _)).mono ?_); rintro e w' ⟨rfl, ⟨nd, rfl⟩⟩; refine ⟨_, rfl, ?_⟩))
            go_ret
            exact ⟨by first | rfl | (simp; done) | (simp [*]; done), by repeat (first | exact Drawn0.refl _ | apply Drawn0.step)⟩
        · replace c18 := Bool.eq_false_iff.mpr c18
          subst c18
          have H1 : (some false) = some r := by rw [if_neg (show ¬ (false = true) by decide)] at H; exact H
          clear H
          have H := H1
          clear H1
          obtain rfl := Option.some.inj H
          go_wp2_with (first | ((with_reducible refine gate_callee (f := 15) rfl ?_); refine goesL_ (some 56) rfl rfl Tryd.func15 (by kernel_rfl) rfl #[.int .i64 a1, .int .i64 a2, .int .i64 a3] rfl (by (try simp only [List.map_toArray, List.map_cons, List.map_nil]); first | done | rfl | (simp only [List.length_drop, List.length_take]; rfl)) ?_; (with_reducible refine (civil_Right.calls a1 a2 a3 true _ A14.out (by first | exact hG | exact hG.drewN _ | exact (hG.drewN _).drewN _)).mono ?_); rintro e w' ⟨rfl, ⟨nd, rfl⟩⟩; refine ⟨_, rfl, ?_⟩) | ((with_reducible refine gate_callee (f := 13) rfl ?_); refine goesL_ (some 63) rfl rfl Tryd.func13 (by kernel_rfl) rfl #[.int .i64 a1, .int .i64 a2, .int .i64 a3] rfl (by (try simp only [List.map_toArray, List.map_cons, List.map_nil]); first | done | rfl | (simp only [List.length_drop, List.length_take]; rfl)) ?_; (with_reducible refine (civil_Days.calls a1 a2 a3 t193 t194 _ A16.out (by first | exact hG | exact hG.drewN _ | exact (hG.drewN _).drewN _)).mono ?_); rintro e w' ⟨rfl, ⟨nd, rfl⟩⟩; refine ⟨_, rfl, ?_⟩) | ((with_reducible refine gate_callee (f := 22) rfl ?_); refine goesL_ (some 68) rfl rfl Tryd.func22 (by kernel_rfl) rfl #[.int .i64 t193] rfl (by (try simp only [List.map_toArray, List.map_cons, List.map_nil]); first | done | rfl | (simp only [List.length_drop, List.length_take]; rfl)) ?_; (with_reducible refine (civil_Date.calls t193 t195 t196 t197 t198 _ A17.out (by first | exact hG | exact hG.drewN _ | exact (hG.drewN _).drewN _)).mono ?_); rintro e w' ⟨rfl, ⟨nd, rfl⟩⟩; refine ⟨_, rfl, ?_⟩))
          go_ret
          exact ⟨by first | rfl | (simp; done) | (simp [*]; done), by repeat (first | exact Drawn0.refl _ | apply Drawn0.step)⟩
      · replace c15 := Bool.eq_false_iff.mpr c15
        subst c15
        have H1 : (some t184) = some r := by rw [if_neg (show ¬ (false = true) by decide)] at H; exact H
        clear H
        have H := H1
        clear H1
        obtain rfl := Option.some.inj H
        go_wp2_with (first | ((with_reducible refine gate_callee (f := 15) rfl ?_); refine goesL_ (some 56) rfl rfl Tryd.func15 (by kernel_rfl) rfl #[.int .i64 a1, .int .i64 a2, .int .i64 a3] rfl (by (try simp only [List.map_toArray, List.map_cons, List.map_nil]); first | done | rfl | (simp only [List.length_drop, List.length_take]; rfl)) ?_; (with_reducible refine (civil_Right.calls a1 a2 a3 false _ A14.out (by first | exact hG | exact hG.drewN _ | exact (hG.drewN _).drewN _)).mono ?_); rintro e w' ⟨rfl, ⟨nd, rfl⟩⟩; refine ⟨_, rfl, ?_⟩))
        go_ret
        exact ⟨by first | rfl | (simp; done) | (simp [*]; done), by repeat (first | exact Drawn0.refl _ | apply Drawn0.step)⟩

/-- THE ONE PURE STATEMENT of longcaselaw02_CivilBack: yours. -/
def longcaselaw02_CivilBack.Pure : Prop := ∀ (a0 : Int) (a1 : Int) (a2 : Int) (a3 : Int), (Lit.int .i64 a0).wf = true → (Lit.int .i64 a1).wf = true → (Lit.int .i64 a2).wf = true → (Lit.int .i64 a3).wf = true → ∃ k, longcaselaw02_CivilBack.f k a0 a1 a2 a3 = some true
theorem longcaselaw02_CivilBack.walk (P : longcaselaw02_CivilBack.Pure) (a0 : Int) (a1 : Int) (a2 : Int) (a3 : Int) (w : World) (w0 : (Lit.int .i64 a0).wf = true) (w1 : (Lit.int .i64 a1).wf = true) (w2 : (Lit.int .i64 a2).wf = true) (w3 : (Lit.int .i64 a3).wf = true) (hG : Glob w) :
    Calls Tryd.prog 4 #[.int .i64 a0, .int .i64 a1, .int .i64 a2, .int .i64 a3] w fun e w' => e = .returned (.bool true) ∧ Below w.heap.size w w' := by
  obtain ⟨k, h⟩ := P a0 a1 a2 a3 w0 w1 w2 w3
  refine (longcaselaw02_CivilBack.calls k a0 a1 a2 a3 true w h hG).mono ?_
  rintro e w' ⟨rfl, hd⟩
  exact ⟨rfl, hd.below⟩

end Go.Proofs.YtmkmopphdkgjeaaDoor.PCiv
