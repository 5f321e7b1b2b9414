-- Written by a program of the session's out of the translation. Not trusted: Lean checks it.
import Derived.Test.YtpmcmkobpjobbaaDoorPPRx0
import Derived.Test.YtpmcmkobpjobbaaDoorPPRx1
namespace Go.Proofs.YtpmcmkobpjobbaaDoor.PPR
open Go.RowKit Go.Proofs.YtpmcmkobpjobbaaDoor.Hand Go.Proofs.YtpmcmkobpjobbaaDoorW.PrintWords Go.Proofs.YtpmcmkobpjobbaaDoorW.PrintLast Go.Proofs.YtpmcmkobpjobbaaDoorW.PrintMore
attribute [local go_sem] max2_int min2_int max_two min_two max_three min_three max_four min_four   -- for this text's walks alone
set_option linter.unusedVariables false
set_option linter.unusedSimpArgs false

/-! ### longcaseref02_Date: function 33 -/
mutual
def longcaseref02_Date.j0 : Nat → Int → Bool → Option (Int × Int × Int × Bool)
  | 0, _, _ => none
  | k + 1, x0, x20 => if x20 = true then (some (0, 0, 0, false)) else ((longcaseref01_Div.f (wrap64 (x0 + 719528)) 146097).bind fun bt113 => (longcaseref02_Date.l0 k bt113.1 0 bt113.2.1))
def longcaseref02_Date.j2 : Nat → Int → Int → Int → Option (Int × Int × Int × Bool)
  | 0, _, _, _ => none
  | k + 1, x6, x9, x10 => if (wrap64 ((wrap64 (x6 * 400)) + x9)) < (-2147483648) then (longcaseref02_Date.j3 k x10 (wrap64 ((wrap64 (x6 * 400)) + x9)) true) else (longcaseref02_Date.j3 k x10 (wrap64 ((wrap64 (x6 * 400)) + x9)) (decide ((wrap64 ((wrap64 (x6 * 400)) + x9)) > 2147483647)))
def longcaseref02_Date.j3 : Nat → Int → Int → Bool → Option (Int × Int × Int × Bool)
  | 0, _, _, _ => none
  | k + 1, x10, x13, x51 => if x51 = true then (some (0, 0, 0, false)) else (longcaseref02_Date.l1 k x10 x13 1)
def longcaseref02_Date.l1 : Nat → Int → Int → Int → Option (Int × Int × Int × Bool)
  | 0, _, _, _ => none
  | k + 1, x10, x13, x14 => (longcaseref02_Length.f k x13 x14).bind fun t117 => (if x10 ≥ t117 then ((longcaseref02_Length.f k x13 x14).bind fun t118 => (longcaseref02_Date.l1 k (wrap64 (x10 - t118)) x13 (wrap64 (x14 + 1)))) else (some (x13, x14, wrap64 (x10 + 1), true)))
def longcaseref02_Date.l0 : Nat → Int → Int → Int → Option (Int × Int × Int × Bool)
  | 0, _, _, _ => none
  | k + 1, x6, x9, x10 => (longcaseref02_Leap.f x9).bind fun t116 => (if t116 = true then (if x10 < 366 then (longcaseref02_Date.j2 k x6 x9 x10) else (longcaseref02_Date.l0 k x6 (wrap64 (x9 + 1)) (wrap64 (x10 - 366)))) else (if x10 < 365 then (longcaseref02_Date.j2 k x6 x9 x10) else (longcaseref02_Date.l0 k x6 (wrap64 (x9 + 1)) (wrap64 (x10 - 365)))))
end
def longcaseref02_Date.f (k : Nat) (a0 : Int) : Option (Int × Int × Int × Bool) := if a0 < (-800000000000) then (longcaseref02_Date.j0 k a0 true) else (longcaseref02_Date.j0 k a0 (decide (a0 > 800000000000)))
theorem longcaseref02_Date.mono_l : ∀ k, (∀ y0 y1, LeO (longcaseref02_Date.j0 k y0 y1) (longcaseref02_Date.j0 (k + 1) y0 y1)) ∧ (∀ y0 y1 y2, LeO (longcaseref02_Date.j2 k y0 y1 y2) (longcaseref02_Date.j2 (k + 1) y0 y1 y2)) ∧ (∀ y0 y1 y2, LeO (longcaseref02_Date.j3 k y0 y1 y2) (longcaseref02_Date.j3 (k + 1) y0 y1 y2)) ∧ (∀ y0 y1 y2, LeO (longcaseref02_Date.l1 k y0 y1 y2) (longcaseref02_Date.l1 (k + 1) y0 y1 y2)) ∧ (∀ y0 y1 y2, LeO (longcaseref02_Date.l0 k y0 y1 y2) (longcaseref02_Date.l0 (k + 1) y0 y1 y2))
  | 0 => ⟨fun _ _ r h => by simp [longcaseref02_Date.j0] at h, fun _ _ _ r h => by simp [longcaseref02_Date.j2] at h, fun _ _ _ r h => by simp [longcaseref02_Date.j3] at h, fun _ _ _ r h => by simp [longcaseref02_Date.l1] at h, fun _ _ _ r h => by simp [longcaseref02_Date.l0] at h⟩
  | k + 1 => by
    obtain ⟨ih0, ih1, ih2, ih3, ih4⟩ := longcaseref02_Date.mono_l k
    refine ⟨?_, ?_, ?_, ?_, ?_⟩
    · intro y0 y1
      unfold longcaseref02_Date.j0
      repeat' first
      | (with_reducible exact ih0 _ _)
      | (with_reducible exact ih1 _ _ _)
      | (with_reducible exact ih2 _ _ _)
      | (with_reducible exact ih3 _ _ _)
      | (with_reducible exact ih4 _ _ _)
      | (with_reducible exact longcaseref02_Length.mono _ _ _)
      | (with_reducible exact LeO.refl _)
      | (with_reducible exact LeO.none _)
      | (with_reducible refine LeO.ite ?_ ?_)
      | (with_reducible refine LeO.bind ?_ (fun _ => ?_))
      | exact ih0 _ _
      | exact ih1 _ _ _
      | exact ih2 _ _ _
      | exact ih3 _ _ _
      | exact ih4 _ _ _
      | exact longcaseref02_Length.mono _ _ _
      | exact LeO.none _
      | refine LeO.ite ?_ ?_
      | refine LeO.bind ?_ (fun _ => ?_)
    · intro y0 y1 y2
      unfold longcaseref02_Date.j2
      repeat' first
      | (with_reducible exact ih0 _ _)
      | (with_reducible exact ih1 _ _ _)
      | (with_reducible exact ih2 _ _ _)
      | (with_reducible exact ih3 _ _ _)
      | (with_reducible exact ih4 _ _ _)
      | (with_reducible exact longcaseref02_Length.mono _ _ _)
      | (with_reducible exact LeO.refl _)
      | (with_reducible exact LeO.none _)
      | (with_reducible refine LeO.ite ?_ ?_)
      | (with_reducible refine LeO.bind ?_ (fun _ => ?_))
      | exact ih0 _ _
      | exact ih1 _ _ _
      | exact ih2 _ _ _
      | exact ih3 _ _ _
      | exact ih4 _ _ _
      | exact longcaseref02_Length.mono _ _ _
      | exact LeO.none _
      | refine LeO.ite ?_ ?_
      | refine LeO.bind ?_ (fun _ => ?_)
    · intro y0 y1 y2
      unfold longcaseref02_Date.j3
      repeat' first
      | (with_reducible exact ih0 _ _)
      | (with_reducible exact ih1 _ _ _)
      | (with_reducible exact ih2 _ _ _)
      | (with_reducible exact ih3 _ _ _)
      | (with_reducible exact ih4 _ _ _)
      | (with_reducible exact longcaseref02_Length.mono _ _ _)
      | (with_reducible exact LeO.refl _)
      | (with_reducible exact LeO.none _)
      | (with_reducible refine LeO.ite ?_ ?_)
      | (with_reducible refine LeO.bind ?_ (fun _ => ?_))
      | exact ih0 _ _
      | exact ih1 _ _ _
      | exact ih2 _ _ _
      | exact ih3 _ _ _
      | exact ih4 _ _ _
      | exact longcaseref02_Length.mono _ _ _
      | exact LeO.none _
      | refine LeO.ite ?_ ?_
      | refine LeO.bind ?_ (fun _ => ?_)
    · intro y0 y1 y2
      unfold longcaseref02_Date.l1
      repeat' first
      | (with_reducible exact ih0 _ _)
      | (with_reducible exact ih1 _ _ _)
      | (with_reducible exact ih2 _ _ _)
      | (with_reducible exact ih3 _ _ _)
      | (with_reducible exact ih4 _ _ _)
      | (with_reducible exact longcaseref02_Length.mono _ _ _)
      | (with_reducible exact LeO.refl _)
      | (with_reducible exact LeO.none _)
      | (with_reducible refine LeO.ite ?_ ?_)
      | (with_reducible refine LeO.bind ?_ (fun _ => ?_))
      | exact ih0 _ _
      | exact ih1 _ _ _
      | exact ih2 _ _ _
      | exact ih3 _ _ _
      | exact ih4 _ _ _
      | exact longcaseref02_Length.mono _ _ _
      | exact LeO.none _
      | refine LeO.ite ?_ ?_
      | refine LeO.bind ?_ (fun _ => ?_)
    · intro y0 y1 y2
      unfold longcaseref02_Date.l0
      repeat' first
      | (with_reducible exact ih0 _ _)
      | (with_reducible exact ih1 _ _ _)
      | (with_reducible exact ih2 _ _ _)
      | (with_reducible exact ih3 _ _ _)
      | (with_reducible exact ih4 _ _ _)
      | (with_reducible exact longcaseref02_Length.mono _ _ _)
      | (with_reducible exact LeO.refl _)
      | (with_reducible exact LeO.none _)
      | (with_reducible refine LeO.ite ?_ ?_)
      | (with_reducible refine LeO.bind ?_ (fun _ => ?_))
      | exact ih0 _ _
      | exact ih1 _ _ _
      | exact ih2 _ _ _
      | exact ih3 _ _ _
      | exact ih4 _ _ _
      | exact longcaseref02_Length.mono _ _ _
      | exact LeO.none _
      | refine LeO.ite ?_ ?_
      | refine LeO.bind ?_ (fun _ => ?_)
theorem longcaseref02_Date.mono : ∀ a0 k, LeO (longcaseref02_Date.f k a0) (longcaseref02_Date.f (k + 1) a0) := by
  intro a0 k
  obtain ⟨ih0, ih1, ih2, ih3, ih4⟩ := longcaseref02_Date.mono_l k
  unfold longcaseref02_Date.f
  repeat' first
      | (with_reducible exact ih0 _ _)
      | (with_reducible exact ih1 _ _ _)
      | (with_reducible exact ih2 _ _ _)
      | (with_reducible exact ih3 _ _ _)
      | (with_reducible exact ih4 _ _ _)
      | (with_reducible exact longcaseref02_Length.mono _ _ _)
      | (with_reducible exact LeO.refl _)
      | (with_reducible exact LeO.none _)
      | (with_reducible refine LeO.ite ?_ ?_)
      | (with_reducible refine LeO.bind ?_ (fun _ => ?_))
      | exact ih0 _ _
      | exact ih1 _ _ _
      | exact ih2 _ _ _
      | exact ih3 _ _ _
      | exact ih4 _ _ _
      | exact longcaseref02_Length.mono _ _ _
      | exact LeO.none _
      | refine LeO.ite ?_ ?_
      | refine LeO.bind ?_ (fun _ => ?_)
set_option maxHeartbeats 8000000 in
set_option maxRecDepth 100000 in
theorem longcaseref02_Date.calls (k : Nat) (a0 : Int) (r1 : Int) (r2 : Int) (r3 : Int) (r4 : Bool) (w : World) (h : longcaseref02_Date.f k a0 = some (r1, r2, r3, r4)) : Glob w →
    Calls Tryd.prog 33 #[.int .i64 a0] w fun e w' => e = .returned (.tuple #[.int .i64 r1, .int .i64 r2, .int .i64 r3, .bool r4]) ∧ Drawn0 w w' := by
  intro hG
  have H : (if a0 < (-800000000000) then (longcaseref02_Date.j0 k a0 true) else (longcaseref02_Date.j0 k a0 (decide (a0 > 800000000000)))) = some (r1, r2, r3, r4) := h
  clear h
  have HC2 := Aside0.mk H
  clear H
  go_enter Tryd.func33, Tryd.ntmps33
  go_upto_region 1 with (fail)
  go_cut [20] (fun v20 wc => ∃ (kq : Nat) (x20_1 : Bool), v20 = .bool x20_1 ∧ Aside0 (longcaseref02_Date.j0 kq a0 x20_1 = some (r1, r2, r3, r4)) ∧ Aside0 (kq ≤ k) ∧ Drawn0 w wc)
  case first =>
    have H := HC2.out
    clear HC2
    by_cases c3 : a0 < (-800000000000)
    · rw [if_pos c3] at H
      have c3b0 : decide (a0 < (-800000000000)) = true := decide_eq_true c3
      clear c3
      (first | rw [c3b0] | rw [c3b1] | (simp only [i64_w, i32_w]; rw [c3b0]) | skip)
      have H' := Aside0.mk H
      clear H
      go_wp2
      go_meet
      case rel => exact ⟨_, (true), (by first | rfl | (simp; done) | (simp [*]; done)), H', ⟨by first | omega | exact Nat.le_refl _⟩, by repeat (first | exact Drawn0.refl _ | apply Drawn0.step)⟩
    · rw [if_neg c3] at H
      have c3b0 : decide (a0 < (-800000000000)) = false := decide_eq_false c3
      clear c3
      (first | rw [c3b0] | rw [c3b1] | (simp only [i64_w, i32_w]; rw [c3b0]) | skip)
      have H' := Aside0.mk H
      clear H
      go_wp2
      go_meet
      case rel => exact ⟨_, (decide (a0 > 800000000000)), (by first | rfl | (simp; done) | (simp [*]; done)), H', ⟨by first | omega | exact Nat.le_refl _⟩, by repeat (first | exact Drawn0.refl _ | apply Drawn0.step)⟩
  case rest =>
    clear HC2
    try clear p2
    try clear c3
    try clear c3b0
    obtain ⟨kq, x20_1, rfl, HA, HJ1, ⟨mc1, rfl⟩⟩ := hcut
    cases kq with
    | zero => exact absurd HA.out (by simp [longcaseref02_Date.j0])
    | succ kj1 =>
      have H := HA.out
      clear HA
      simp only [longcaseref02_Date.j0] at H
      by_cases c4 : x20_1 = true
      · subst c4
        have H1 : (some (0, 0, 0, false)) = some (r1, r2, r3, r4) := by rw [if_pos rfl] at H; exact H
        clear H
        have H := H1
        clear H1
        simp only [Option.some.injEq, Prod.mk.injEq] at H
        obtain ⟨rfl, rfl, rfl, rfl⟩ := H
        go_wp2
        refine bodyPost_ret (results_list (rs := [.tmp 2, .tmp 3, .tmp 4, .tmp 5]) rfl (by simp) (.tmp (.tmp (.tmp (.tmp .nil))))) rfl ?_
        exact ⟨by first | rfl | (simp; done) | (simp [*]; done), by repeat (first | exact Drawn0.refl _ | apply Drawn0.step)⟩
      · replace c4 := Bool.eq_false_iff.mpr c4
        subst c4
        have H1 : ((longcaseref01_Div.f (wrap64 (a0 + 719528)) 146097).bind fun bt113 => (longcaseref02_Date.l0 kj1 bt113.1 0 bt113.2.1)) = some (r1, r2, r3, r4) := by rw [if_neg (show ¬ (false = true) by decide)] at H; exact H
        clear H
        have H := H1
        clear H1
        replace H := Option.bind_eq_some_iff.mp H
        obtain ⟨⟨t113, t114, t115⟩, A50, H⟩ := H
        replace H : (longcaseref02_Date.l0 kj1 t113 0 t114) = some (r1, r2, r3, r4) := H
        have A5 := Aside0.mk A50
        clear A50
        have HC6 := Aside0.mk H
        clear H
        go_upto_block 0 with (first | ((with_reducible refine gate_callee (f := 32) rfl ?_); refine goesL_ (some 24) rfl rfl Tryd.func32 (by kernel_rfl) rfl #[.int .i64 (wrap64 (a0 + 719528)), .int .i64 146097] rfl (by (try simp only [List.map_toArray, List.map_cons, List.map_nil]); first | done | rfl | (simp only [List.length_drop, List.length_take]; rfl)) ?_; (with_reducible refine (longcaseref01_Div.calls (wrap64 (a0 + 719528)) 146097 t113 t114 t115 _ A5.out (by first | exact hG | exact hG.drewN _ | exact (hG.drewN _).drewN _ | exact hG.below HB.out | exact hG.below (by repeat (first | (with_reducible first | exact HB.out | apply below_alloc | apply pw_below_drewN | apply below_drew1 | refine below_set ?_ (Aside0.out (by assumption))) | exact HB.out)))).mono ?_); rintro e w' ⟨rfl, ⟨nd, rfl⟩⟩; refine ⟨_, rfl, ?_⟩))
        (try simp only [Act.put, List.setIfInBounds_toArray, List.set_cons_zero, List.set_cons_succ])
        go_cut [9, 10] (fun v9 v10 wc => ∃ (kq : Nat) (x9_5 : Int) (x10_5 : Int), v9 = .int .i64 x9_5 ∧ v10 = .int .i64 x10_5 ∧ Aside0 (longcaseref02_Date.j2 kq t113 x9_5 x10_5 = some (r1, r2, r3, r4)) ∧ Aside0 (kq ≤ kj1) ∧ Drawn0 w wc)
        case first =>
          have H := HC6.out
          clear HC6
          have H' := Aside0.mk H
          clear H
          go_wp2
          go_loopg [9, 10] kj1 (fun kq v9 v10 w' => ∃ (x9_2 : Int) (x10_2 : Int), v9 = .int .i64 x9_2 ∧ v10 = .int .i64 x10_2 ∧ Aside0 (longcaseref02_Date.l0 kq t113 x9_2 x10_2 = some (r1, r2, r3, r4)) ∧ Aside0 (kq ≤ kj1) ∧ Drawn0 w w')
          case atStart => exact ⟨(0), (t114), (by first | rfl | (simp; done) | (simp [*]; done)), (by first | rfl | (simp; done) | (simp [*]; done)), H', ⟨Nat.le_refl _⟩, by repeat (first | exact Drawn0.refl _ | apply Drawn0.step)⟩
          case round =>
            clear H'
            try clear c1
            try clear p2
            try clear c3
            try clear c3b0
            try clear c4
            try clear p6
            try clear p2
            obtain ⟨x9_2, x10_2, rfl, rfl, HA, HK2, ⟨m2, rfl⟩⟩ := hrel
            cases gk with
            | zero => exact absurd HA.out (by simp [longcaseref02_Date.l0])
            | succ k2 =>
              have H := HA.out
              clear HA
              simp only [longcaseref02_Date.l0] at H
              replace H := Option.bind_eq_some_iff.mp H
              obtain ⟨t116, A70, H⟩ := H
              replace H : (if t116 = true then (if x10_2 < 366 then (longcaseref02_Date.j2 k2 t113 x9_2 x10_2) else (longcaseref02_Date.l0 k2 t113 (wrap64 (x9_2 + 1)) (wrap64 (x10_2 - 366)))) else (if x10_2 < 365 then (longcaseref02_Date.j2 k2 t113 x9_2 x10_2) else (longcaseref02_Date.l0 k2 t113 (wrap64 (x9_2 + 1)) (wrap64 (x10_2 - 365))))) = some (r1, r2, r3, r4) := H
              have A7 := Aside0.mk A70
              clear A70
              by_cases c8 : t116 = true
              · subst c8
                have H1 : (if x10_2 < 366 then (longcaseref02_Date.j2 k2 t113 x9_2 x10_2) else (longcaseref02_Date.l0 k2 t113 (wrap64 (x9_2 + 1)) (wrap64 (x10_2 - 366)))) = some (r1, r2, r3, r4) := by rw [if_pos rfl] at H; exact H
                clear H
                have H := H1
                clear H1
                by_cases c9 : x10_2 < 366
                · rw [if_pos c9] at H
                  have c9b0 : decide (x10_2 < 366) = true := decide_eq_true c9
                  clear c9
                  (first | rw [c9b0] | rw [c9b1] | (simp only [i64_w, i32_w]; rw [c9b0]) | skip)
                  have H' := Aside0.mk H
                  clear H
                  go_wp2_with (first | ((with_reducible refine gate_callee (f := 40) rfl ?_); refine goesL_ (some 30) rfl rfl Tryd.func40 (by kernel_rfl) rfl #[.int .i64 x9_2] rfl (by (try simp only [List.map_toArray, List.map_cons, List.map_nil]); first | done | rfl | (simp only [List.length_drop, List.length_take]; rfl)) ?_; (with_reducible refine (longcaseref02_Leap.calls x9_2 true _ A7.out (by first | exact hG | exact hG.drewN _ | exact (hG.drewN _).drewN _ | exact hG.below HB.out | exact hG.below (by repeat (first | (with_reducible first | exact HB.out | apply below_alloc | apply pw_below_drewN | apply below_drew1 | refine below_set ?_ (Aside0.out (by assumption))) | exact HB.out)))).mono ?_); rintro e w' ⟨rfl, ⟨nd, rfl⟩⟩; refine ⟨_, rfl, ?_⟩))
                  go_meet
                  case rel => exact ⟨_, (x9_2), (x10_2), (by first | rfl | (simp; done) | (simp [*]; done)), (by first | rfl | (simp; done) | (simp [*]; done)), H', ⟨by have := HJ1.out; have := HK2.out; first | omega | exact Nat.le_refl _⟩, by repeat (first | exact Drawn0.refl _ | apply Drawn0.step)⟩
                · rw [if_neg c9] at H
                  have c9b0 : decide (x10_2 < 366) = false := decide_eq_false c9
                  clear c9
                  (first | rw [c9b0] | rw [c9b1] | (simp only [i64_w, i32_w]; rw [c9b0]) | skip)
                  have H' := Aside0.mk H
                  clear H
                  go_wp2_with (first | ((with_reducible refine gate_callee (f := 40) rfl ?_); refine goesL_ (some 30) rfl rfl Tryd.func40 (by kernel_rfl) rfl #[.int .i64 x9_2] rfl (by (try simp only [List.map_toArray, List.map_cons, List.map_nil]); first | done | rfl | (simp only [List.length_drop, List.length_take]; rfl)) ?_; (with_reducible refine (longcaseref02_Leap.calls x9_2 true _ A7.out (by first | exact hG | exact hG.drewN _ | exact (hG.drewN _).drewN _ | exact hG.below HB.out | exact hG.below (by repeat (first | (with_reducible first | exact HB.out | apply below_alloc | apply pw_below_drewN | apply below_drew1 | refine below_set ?_ (Aside0.out (by assumption))) | exact HB.out)))).mono ?_); rintro e w' ⟨rfl, ⟨nd, rfl⟩⟩; refine ⟨_, rfl, ?_⟩))
                  go_roundg k2
                  case measure => have := HJ1.out; have := HK2.out; omega
                  case rel => exact ⟨(wrap64 (x9_2 + 1)), (wrap64 (x10_2 - 366)), (by first | rfl | (simp; done) | (simp [*]; done)), (by first | rfl | (simp; done) | (simp [*]; done)), H', ⟨by have := HJ1.out; have := HK2.out; omega⟩, by repeat (first | exact Drawn0.refl _ | apply Drawn0.step)⟩
              · replace c8 := Bool.eq_false_iff.mpr c8
                subst c8
                have H1 : (if x10_2 < 365 then (longcaseref02_Date.j2 k2 t113 x9_2 x10_2) else (longcaseref02_Date.l0 k2 t113 (wrap64 (x9_2 + 1)) (wrap64 (x10_2 - 365)))) = some (r1, r2, r3, r4) := by rw [if_neg (show ¬ (false = true) by decide)] at H; exact H
                clear H
                have H := H1
                clear H1
                by_cases c10 : x10_2 < 365
                · rw [if_pos c10] at H
                  have c10b0 : decide (x10_2 < 365) = true := decide_eq_true c10
                  clear c10
                  have H' := Aside0.mk H
                  clear H
                  go_wp2_with (first | ((with_reducible refine gate_callee (f := 40) rfl ?_); refine goesL_ (some 30) rfl rfl Tryd.func40 (by kernel_rfl) rfl #[.int .i64 x9_2] rfl (by (try simp only [List.map_toArray, List.map_cons, List.map_nil]); first | done | rfl | (simp only [List.length_drop, List.length_take]; rfl)) ?_; (with_reducible refine (longcaseref02_Leap.calls x9_2 false _ A7.out (by first | exact hG | exact hG.drewN _ | exact (hG.drewN _).drewN _ | exact hG.below HB.out | exact hG.below (by repeat (first | (with_reducible first | exact HB.out | apply below_alloc | apply pw_below_drewN | apply below_drew1 | refine below_set ?_ (Aside0.out (by assumption))) | exact HB.out)))).mono ?_); rintro e w' ⟨rfl, ⟨nd, rfl⟩⟩; refine ⟨_, rfl, ?_⟩))
                  go_meet
                  case rel => exact ⟨_, (x9_2), (x10_2), (by first | rfl | (simp; done) | (simp [*]; done)), (by first | rfl | (simp; done) | (simp [*]; done)), H', ⟨by have := HJ1.out; have := HK2.out; first | omega | exact Nat.le_refl _⟩, by repeat (first | exact Drawn0.refl _ | apply Drawn0.step)⟩
                · rw [if_neg c10] at H
                  have c10b0 : decide (x10_2 < 365) = false := decide_eq_false c10
                  clear c10
                  have H' := Aside0.mk H
                  clear H
                  go_wp2_with (first | ((with_reducible refine gate_callee (f := 40) rfl ?_); refine goesL_ (some 30) rfl rfl Tryd.func40 (by kernel_rfl) rfl #[.int .i64 x9_2] rfl (by (try simp only [List.map_toArray, List.map_cons, List.map_nil]); first | done | rfl | (simp only [List.length_drop, List.length_take]; rfl)) ?_; (with_reducible refine (longcaseref02_Leap.calls x9_2 false _ A7.out (by first | exact hG | exact hG.drewN _ | exact (hG.drewN _).drewN _ | exact hG.below HB.out | exact hG.below (by repeat (first | (with_reducible first | exact HB.out | apply below_alloc | apply pw_below_drewN | apply below_drew1 | refine below_set ?_ (Aside0.out (by assumption))) | exact HB.out)))).mono ?_); rintro e w' ⟨rfl, ⟨nd, rfl⟩⟩; refine ⟨_, rfl, ?_⟩))
                  go_roundg k2
                  case measure => have := HJ1.out; have := HK2.out; omega
                  case rel => exact ⟨(wrap64 (x9_2 + 1)), (wrap64 (x10_2 - 365)), (by first | rfl | (simp; done) | (simp [*]; done)), (by first | rfl | (simp; done) | (simp [*]; done)), H', ⟨by have := HJ1.out; have := HK2.out; omega⟩, by repeat (first | exact Drawn0.refl _ | apply Drawn0.step)⟩
        case rest =>
          clear HC6
          try clear c1
          try clear p2
          try clear c3
          try clear c3b0
          try clear c4
          try clear p6
          try clear c8
          try clear c9
          try clear c9b0
          try clear c10
          try clear c10b0
          try clear p2
          try clear p6
          obtain ⟨kq, x9_5, x10_5, rfl, rfl, HA, HJ5, ⟨mc5, rfl⟩⟩ := hcut
          cases kq with
          | zero => exact absurd HA.out (by simp [longcaseref02_Date.j2])
          | succ kj5 =>
            have H := HA.out
            clear HA
            simp only [longcaseref02_Date.j2] at H
            have HC11 := Aside0.mk H
            clear H
            go_upto_region 14 with (fail)
            go_cut [51] (fun v51 wc => ∃ (kq : Nat) (x51_10 : Bool), v51 = .bool x51_10 ∧ Aside0 (longcaseref02_Date.j3 kq x10_5 (wrap64 ((wrap64 (t113 * 400)) + x9_5)) x51_10 = some (r1, r2, r3, r4)) ∧ Aside0 (kq ≤ kj5) ∧ Drawn0 w wc)
            case first =>
              have H := HC11.out
              clear HC11
              by_cases c12 : (wrap64 ((wrap64 (t113 * 400)) + x9_5)) < (-2147483648)
              · rw [if_pos c12] at H
                have c12b0 : decide ((wrap64 ((wrap64 (t113 * 400)) + x9_5)) < (-2147483648)) = true := decide_eq_true c12
                clear c12
                (first | rw [c12b0] | rw [c12b1] | (simp only [i64_w, i32_w]; rw [c12b0]) | skip)
                have H' := Aside0.mk H
                clear H
                go_wp2
                go_meet
                case rel => exact ⟨_, (true), (by first | rfl | (simp; done) | (simp [*]; done)), H', ⟨by have := HJ1.out; have := HJ5.out; first | omega | exact Nat.le_refl _⟩, by repeat (first | exact Drawn0.refl _ | apply Drawn0.step)⟩
              · rw [if_neg c12] at H
                have c12b0 : decide ((wrap64 ((wrap64 (t113 * 400)) + x9_5)) < (-2147483648)) = false := decide_eq_false c12
                clear c12
                (first | rw [c12b0] | rw [c12b1] | (simp only [i64_w, i32_w]; rw [c12b0]) | skip)
                have H' := Aside0.mk H
                clear H
                go_wp2
                go_meet
                case rel => exact ⟨_, (decide ((wrap64 ((wrap64 (t113 * 400)) + x9_5)) > 2147483647)), (by first | rfl | (simp; done) | (simp [*]; done)), H', ⟨by have := HJ1.out; have := HJ5.out; first | omega | exact Nat.le_refl _⟩, by repeat (first | exact Drawn0.refl _ | apply Drawn0.step)⟩
            case rest =>
              clear HC11
              try clear c1
              try clear p2
              try clear c3
              try clear c3b0
              try clear c4
              try clear c5
              try clear p6
              try clear c8
              try clear c9
              try clear c9b0
              try clear c10
              try clear c10b0
              try clear c12
              try clear c12b0
              try clear p2
              try clear p6
              obtain ⟨kq, x51_10, rfl, HA, HJ10, ⟨mc10, rfl⟩⟩ := hcut
              cases kq with
              | zero => exact absurd HA.out (by simp [longcaseref02_Date.j3])
              | succ kj10 =>
                have H := HA.out
                clear HA
                simp only [longcaseref02_Date.j3] at H
                by_cases c13 : x51_10 = true
                · subst c13
                  have H1 : (some (0, 0, 0, false)) = some (r1, r2, r3, r4) := by rw [if_pos rfl] at H; exact H
                  clear H
                  have H := H1
                  clear H1
                  simp only [Option.some.injEq, Prod.mk.injEq] at H
                  obtain ⟨rfl, rfl, rfl, rfl⟩ := H
                  go_wp2
                  refine bodyPost_ret (results_list (rs := [.tmp 2, .tmp 3, .tmp 4, .tmp 5]) rfl (by simp) (.tmp (.tmp (.tmp (.tmp .nil))))) rfl ?_
                  exact ⟨by first | rfl | (simp; done) | (simp [*]; done), by repeat (first | exact Drawn0.refl _ | apply Drawn0.step)⟩
                · replace c13 := Bool.eq_false_iff.mpr c13
                  subst c13
                  have H1 : (longcaseref02_Date.l1 kj10 x10_5 (wrap64 ((wrap64 (t113 * 400)) + x9_5)) 1) = some (r1, r2, r3, r4) := by rw [if_neg (show ¬ (false = true) by decide)] at H; exact H
                  clear H
                  have H := H1
                  clear H1
                  have H' := Aside0.mk H
                  clear H
                  go_wp2
                  go_loopg [10, 14] kj10 (fun kq v10 v14 w' => ∃ (x10_4 : Int) (x14_4 : Int), v10 = .int .i64 x10_4 ∧ v14 = .int .i64 x14_4 ∧ Aside0 (longcaseref02_Date.l1 kq x10_4 (wrap64 ((wrap64 (t113 * 400)) + x9_5)) x14_4 = some (r1, r2, r3, r4)) ∧ Aside0 (kq ≤ kj10) ∧ Drawn0 w w')
                  case atStart => exact ⟨(x10_5), (1), (by first | rfl | (simp; done) | (simp [*]; done)), (by first | rfl | (simp; done) | (simp [*]; done)), H', ⟨Nat.le_refl _⟩, by repeat (first | exact Drawn0.refl _ | apply Drawn0.step)⟩
                  case round =>
                    clear H'
                    try clear c1
                    try clear p2
                    try clear c3
                    try clear c3b0
                    try clear c4
                    try clear c5
                    try clear p6
                    try clear c8
                    try clear c9
                    try clear c9b0
                    try clear c10
                    try clear c10b0
                    try clear c12
                    try clear c12b0
                    try clear c13
                    try clear p2
                    try clear p6
                    obtain ⟨x10_4, x14_4, rfl, rfl, HA, HK4, ⟨m4, rfl⟩⟩ := hrel
                    cases gk with
                    | zero => exact absurd HA.out (by simp [longcaseref02_Date.l1])
                    | succ k4 =>
                      have H := HA.out
                      clear HA
                      simp only [longcaseref02_Date.l1] at H
                      replace H := Option.bind_eq_some_iff.mp H
                      obtain ⟨t117, A140, H⟩ := H
                      replace H : (if x10_4 ≥ t117 then ((longcaseref02_Length.f k4 (wrap64 ((wrap64 (t113 * 400)) + x9_5)) x14_4).bind fun t118 => (longcaseref02_Date.l1 k4 (wrap64 (x10_4 - t118)) (wrap64 ((wrap64 (t113 * 400)) + x9_5)) (wrap64 (x14_4 + 1)))) else (some ((wrap64 ((wrap64 (t113 * 400)) + x9_5)), x14_4, wrap64 (x10_4 + 1), true))) = some (r1, r2, r3, r4) := H
                      have A14 := Aside0.mk A140
                      clear A140
                      by_cases c15 : x10_4 ≥ t117
                      · rw [if_pos c15] at H
                        have c15b0 : decide (t117 ≤ x10_4) = true := decide_eq_true c15
                        clear c15
                        replace H := Option.bind_eq_some_iff.mp H
                        obtain ⟨t118, A160, H⟩ := H
                        replace H : (longcaseref02_Date.l1 k4 (wrap64 (x10_4 - t118)) (wrap64 ((wrap64 (t113 * 400)) + x9_5)) (wrap64 (x14_4 + 1))) = some (r1, r2, r3, r4) := H
                        have A16 := Aside0.mk A160
                        clear A160
                        have H' := Aside0.mk H
                        clear H
                        go_wp2_with (first | ((with_reducible refine gate_callee (f := 35) rfl ?_); refine goesL_ (some 55) rfl rfl Tryd.func35 (by kernel_rfl) rfl #[.int .i64 (wrap64 ((wrap64 (t113 * 400)) + x9_5)), .int .i64 x14_4] rfl (by (try simp only [List.map_toArray, List.map_cons, List.map_nil]); first | done | rfl | (simp only [List.length_drop, List.length_take]; rfl)) ?_; (with_reducible refine (longcaseref02_Length.calls k4 (wrap64 ((wrap64 (t113 * 400)) + x9_5)) x14_4 t117 _ A14.out (by first | exact hG | exact hG.drewN _ | exact (hG.drewN _).drewN _ | exact hG.below HB.out | exact hG.below (by repeat (first | (with_reducible first | exact HB.out | apply below_alloc | apply pw_below_drewN | apply below_drew1 | refine below_set ?_ (Aside0.out (by assumption))) | exact HB.out)))).mono ?_); rintro e w' ⟨rfl, ⟨nd, rfl⟩⟩; refine ⟨_, rfl, ?_⟩) | ((with_reducible refine gate_callee (f := 35) rfl ?_); refine goesL_ (some 60) rfl rfl Tryd.func35 (by kernel_rfl) rfl #[.int .i64 (wrap64 ((wrap64 (t113 * 400)) + x9_5)), .int .i64 x14_4] rfl (by (try simp only [List.map_toArray, List.map_cons, List.map_nil]); first | done | rfl | (simp only [List.length_drop, List.length_take]; rfl)) ?_; (with_reducible refine (longcaseref02_Length.calls k4 (wrap64 ((wrap64 (t113 * 400)) + x9_5)) x14_4 t118 _ A16.out (by first | exact hG | exact hG.drewN _ | exact (hG.drewN _).drewN _ | exact hG.below HB.out | exact hG.below (by repeat (first | (with_reducible first | exact HB.out | apply below_alloc | apply pw_below_drewN | apply below_drew1 | refine below_set ?_ (Aside0.out (by assumption))) | exact HB.out)))).mono ?_); rintro e w' ⟨rfl, ⟨nd, rfl⟩⟩; refine ⟨_, rfl, ?_⟩))
                        go_roundg k4
                        case measure => have := HJ1.out; have := HJ5.out; have := HJ10.out; have := HK4.out; omega
                        case rel => exact ⟨(wrap64 (x10_4 - t118)), (wrap64 (x14_4 + 1)), (by first | rfl | (simp; done) | (simp [*]; done)), (by first | rfl | (simp; done) | (simp [*]; done)), H', ⟨by have := HJ1.out; have := HJ5.out; have := HJ10.out; have := HK4.out; omega⟩, by repeat (first | exact Drawn0.refl _ | apply Drawn0.step)⟩
                      · rw [if_neg c15] at H
                        have c15b0 : decide (t117 ≤ x10_4) = false := decide_eq_false c15
                        clear c15
                        simp only [Option.some.injEq, Prod.mk.injEq] at H
                        obtain ⟨rfl, rfl, rfl, rfl⟩ := H
                        go_wp2_with (first | ((with_reducible refine gate_callee (f := 35) rfl ?_); refine goesL_ (some 55) rfl rfl Tryd.func35 (by kernel_rfl) rfl #[.int .i64 (wrap64 ((wrap64 (t113 * 400)) + x9_5)), .int .i64 x14_4] rfl (by (try simp only [List.map_toArray, List.map_cons, List.map_nil]); first | done | rfl | (simp only [List.length_drop, List.length_take]; rfl)) ?_; (with_reducible refine (longcaseref02_Length.calls k4 (wrap64 ((wrap64 (t113 * 400)) + x9_5)) x14_4 t117 _ A14.out (by first | exact hG | exact hG.drewN _ | exact (hG.drewN _).drewN _ | exact hG.below HB.out | exact hG.below (by repeat (first | (with_reducible first | exact HB.out | apply below_alloc | apply pw_below_drewN | apply below_drew1 | refine below_set ?_ (Aside0.out (by assumption))) | exact HB.out)))).mono ?_); rintro e w' ⟨rfl, ⟨nd, rfl⟩⟩; refine ⟨_, rfl, ?_⟩))
                        refine bodyPost_ret (results_list (rs := [.tmp 2, .tmp 3, .tmp 4, .tmp 5]) rfl (by simp) (.tmp (.tmp (.tmp (.tmp .nil))))) rfl ?_
                        exact ⟨by first | rfl | (simp; done) | (simp [*]; done), by repeat (first | exact Drawn0.refl _ | apply Drawn0.step)⟩

/-! ### longcaseref03_Of: function 18 -/
def longcaseref03_Of.f (k : Nat) (a0 : Int) : Option (Int × Int × Int × Int × Int × Int × Bool) := (longcaseref01_Div.f a0 86400).bind fun bt120 => ((longcaseref02_Date.f k bt120.1).bind fun bt123 => (if bt123.2.2.2 = true then (some (bt123.1, bt123.2.1, bt123.2.2.1, wrap64 (Int.tdiv bt120.2.1 3600), Int.tmod (wrap64 (Int.tdiv bt120.2.1 60)) 60, Int.tmod bt120.2.1 60, true)) else (some (0, 0, 0, 0, 0, 0, false))))
theorem longcaseref03_Of.mono : ∀ a0 k, LeO (longcaseref03_Of.f k a0) (longcaseref03_Of.f (k + 1) a0) := by
  intro a0 k
  unfold longcaseref03_Of.f
  repeat' first
      | (with_reducible exact longcaseref02_Date.mono _ _)
      | (with_reducible exact LeO.refl _)
      | (with_reducible exact LeO.none _)
      | (with_reducible refine LeO.ite ?_ ?_)
      | (with_reducible refine LeO.bind ?_ (fun _ => ?_))
      | exact longcaseref02_Date.mono _ _
      | exact LeO.none _
      | refine LeO.ite ?_ ?_
      | refine LeO.bind ?_ (fun _ => ?_)
set_option maxHeartbeats 8000000 in
set_option maxRecDepth 100000 in
theorem longcaseref03_Of.calls (k : Nat) (a0 : Int) (r1 : Int) (r2 : Int) (r3 : Int) (r4 : Int) (r5 : Int) (r6 : Int) (r7 : Bool) (w : World) (h : longcaseref03_Of.f k a0 = some (r1, r2, r3, r4, r5, r6, r7)) : Glob w →
    Calls Tryd.prog 18 #[.int .i64 a0] w fun e w' => e = .returned (.tuple #[.agg #[.int .i64 r1, .int .i64 r2, .int .i64 r3, .int .i64 r4, .int .i64 r5, .int .i64 r6], .bool r7]) ∧ Below w.heap.size w w' := by
  intro hG
  have hu23 := Tryd.underlying23
  have HB := Aside0.mk (Below.refl w.heap.size w)
  have H : ((longcaseref01_Div.f a0 86400).bind fun bt120 => ((longcaseref02_Date.f k bt120.1).bind fun bt123 => (if bt123.2.2.2 = true then (some (bt123.1, bt123.2.1, bt123.2.2.1, wrap64 (Int.tdiv bt120.2.1 3600), Int.tmod (wrap64 (Int.tdiv bt120.2.1 60)) 60, Int.tmod bt120.2.1 60, true)) else (some (0, 0, 0, 0, 0, 0, false))))) = some (r1, r2, r3, r4, r5, r6, r7) := h
  clear h
  replace H := Option.bind_eq_some_iff.mp H
  obtain ⟨⟨t120, t121, t122⟩, A20, H⟩ := H
  replace H : ((longcaseref02_Date.f k t120).bind fun bt123 => (if bt123.2.2.2 = true then (some (bt123.1, bt123.2.1, bt123.2.2.1, wrap64 (Int.tdiv t121 3600), Int.tmod (wrap64 (Int.tdiv t121 60)) 60, Int.tmod t121 60, true)) else (some (0, 0, 0, 0, 0, 0, false)))) = some (r1, r2, r3, r4, r5, r6, r7) := H
  have A2 := Aside0.mk A20
  clear A20
  replace H := Option.bind_eq_some_iff.mp H
  obtain ⟨⟨t123, t124, t125, t126⟩, A30, H⟩ := H
  replace H : (if t126 = true then (some (t123, t124, t125, wrap64 (Int.tdiv t121 3600), Int.tmod (wrap64 (Int.tdiv t121 60)) 60, Int.tmod t121 60, true)) else (some (0, 0, 0, 0, 0, 0, false))) = some (r1, r2, r3, r4, r5, r6, r7) := H
  have A3 := Aside0.mk A30
  clear A30
  by_cases c4 : t126 = true
  · subst c4
    have H1 : (some (t123, t124, t125, wrap64 (Int.tdiv t121 3600), Int.tmod (wrap64 (Int.tdiv t121 60)) 60, Int.tmod t121 60, true)) = some (r1, r2, r3, r4, r5, r6, r7) := by rw [if_pos rfl] at H; exact H
    clear H
    have H := H1
    clear H1
    simp only [Option.some.injEq, Prod.mk.injEq] at H
    obtain ⟨rfl, rfl, rfl, rfl, rfl, rfl, rfl⟩ := H
    go_enter Tryd.func18, Tryd.ntmps18
    go_wp2_with (first | ((with_reducible refine gate_dst (N := 2) rfl ?_); refine box_event ?hg (N := 2) ?hd (cs := #[.int .i64 0, .int .i64 0, .int .i64 0, .int .i64 0, .int .i64 0, .int .i64 0]) (t := 23) ?hr ?_; (case hd => rfl); (case hg => rfl); (case hr => first | (go_simp; done) | (go_simp; rfl)); intro gb119 hg w5 hbox hb; have n0_ := Aside0.mk (below_step (by repeat (first | (with_reducible first | exact HB.out | apply below_alloc | apply pw_below_drewN | apply below_drew1) | exact HB.out)) hb); have n1_ := Aside0.mk (hbox); have n2_ := Aside0.mk ((by rw [hg]; exact (below_size (by repeat (first | (with_reducible first | exact HB.out | apply below_alloc | apply pw_below_drewN | apply below_drew1) | exact HB.out))) : w.heap.size ≤ gb119)); have n3_ := Aside0.mk ((by rw [hg]; exact (below_size (by repeat (first | (with_reducible first | exact HB.out | apply below_alloc | apply pw_below_drewN | apply below_drew1) | exact HB.out))) : w.heap.size ≤ gb119)); clear HB; have HB := n0_; have BK119 := n1_; have GW119 := n2_; have GE119 := n3_; clear n0_ n1_ n2_ n3_; clear hb hbox hg) | ((with_reducible refine gate_callee (f := 32) rfl ?_); refine goesL_ (some 14) rfl rfl Tryd.func32 (by kernel_rfl) rfl #[.int .i64 a0, .int .i64 86400] rfl (by (try simp only [List.map_toArray, List.map_cons, List.map_nil]); first | done | rfl | (simp only [List.length_drop, List.length_take]; rfl)) ?_; (with_reducible refine (longcaseref01_Div.calls a0 86400 t120 t121 t122 _ A2.out (by first | exact hG | exact hG.drewN _ | exact (hG.drewN _).drewN _ | exact hG.below HB.out | exact hG.below (by repeat (first | (with_reducible first | exact HB.out | apply below_alloc | apply pw_below_drewN | apply below_drew1 | refine below_set ?_ (Aside0.out (by assumption))) | exact HB.out)))).mono ?_); rintro e w' ⟨rfl, ⟨nd, rfl⟩⟩; refine ⟨_, rfl, ?_⟩; (try (rw [drewN_self w5]; generalize hq_ : World.drewN w5 _ = w5; have n0_ : Aside0 (w5.heap[gb119]? = some (.cells #[.int .i64 0, .int .i64 0, .int .i64 0, .int .i64 0, .int .i64 0, .int .i64 0] 23 (0, 0))) := ⟨by rw [← hq_]; exact (by (with_reducible repeat (first | refine blk_drewN ?_ _ | refine blk_drew ?_ | refine blk_alloc ?_ _)); exact BK119.out)⟩; have n1_ : Aside0 (Below w.heap.size w w5) := ⟨by rw [← hq_]; exact (by repeat (first | (with_reducible first | exact HB.out | apply below_alloc | apply pw_below_drewN | apply below_drew1 | refine below_set ?_ GE119.out) | exact HB.out))⟩; clear BK119 HB hq_; have BK119 := n0_; have HB := n1_; clear n0_ n1_))) | ((with_reducible refine gate_callee (f := 33) rfl ?_); refine goesL_ (some 20) rfl rfl Tryd.func33 (by kernel_rfl) rfl #[.int .i64 t120] rfl (by (try simp only [List.map_toArray, List.map_cons, List.map_nil]); first | done | rfl | (simp only [List.length_drop, List.length_take]; rfl)) ?_; (with_reducible refine (longcaseref02_Date.calls k t120 t123 t124 t125 true _ A3.out (by first | exact hG | exact hG.drewN _ | exact (hG.drewN _).drewN _ | exact hG.below HB.out | exact hG.below (by repeat (first | (with_reducible first | exact HB.out | apply below_alloc | apply pw_below_drewN | apply below_drew1 | refine below_set ?_ (Aside0.out (by assumption))) | exact HB.out)))).mono ?_); rintro e w' ⟨rfl, ⟨nd, rfl⟩⟩; refine ⟨_, rfl, ?_⟩; (try (rw [drewN_self w5]; generalize hq_ : World.drewN w5 _ = w5; have n0_ : Aside0 (w5.heap[gb119]? = some (.cells #[.int .i64 0, .int .i64 0, .int .i64 0, .int .i64 0, .int .i64 0, .int .i64 0] 23 (0, 0))) := ⟨by rw [← hq_]; exact (by (with_reducible repeat (first | refine blk_drewN ?_ _ | refine blk_drew ?_ | refine blk_alloc ?_ _)); exact BK119.out)⟩; have n1_ : Aside0 (Below w.heap.size w w5) := ⟨by rw [← hq_]; exact (by repeat (first | (with_reducible first | exact HB.out | apply below_alloc | apply pw_below_drewN | apply below_drew1 | refine below_set ?_ GE119.out) | exact HB.out))⟩; clear BK119 HB hq_; have BK119 := n0_; have HB := n1_; clear n0_ n1_)); have hcz6_0 : w5.cell? ⟨gb119, 0, none⟩ = some (.int .i64 0) := (blk_cell BK119.out 0).trans rfl; have hcz6_1 : w5.cell? ⟨gb119, 1, none⟩ = some (.int .i64 0) := (blk_cell BK119.out 1).trans rfl; have hcz6_2 : w5.cell? ⟨gb119, 2, none⟩ = some (.int .i64 0) := (blk_cell BK119.out 2).trans rfl; have hcz6_3 : w5.cell? ⟨gb119, 3, none⟩ = some (.int .i64 0) := (blk_cell BK119.out 3).trans rfl; have hcz6_4 : w5.cell? ⟨gb119, 4, none⟩ = some (.int .i64 0) := (blk_cell BK119.out 4).trans rfl; have hcz6_5 : w5.cell? ⟨gb119, 5, none⟩ = some (.int .i64 0) := (blk_cell BK119.out 5).trans rfl; have hfz6_0 := blk_frozen BK119.out 0; have hfz6_1 := blk_frozen BK119.out 1; have hfz6_2 := blk_frozen BK119.out 2; have hfz6_3 := blk_frozen BK119.out 3; have hfz6_4 := blk_frozen BK119.out 4; have hfz6_5 := blk_frozen BK119.out 5))
    refine bodyPost_ret (results_ct rfl _ _ gb119 23 #[.int .i64 t123, .int .i64 t124, .int .i64 t125, .int .i64 (wrap64 (Int.tdiv t121 3600)), .int .i64 (Int.tmod (wrap64 (Int.tdiv t121 60)) 60), .int .i64 (Int.tmod t121 60)] (0, 0) _ rfl (by (with_reducible repeat (first | refine blk_drewN ?_ _ | refine blk_drew ?_ | refine blk_alloc ?_ _)); refine blk_put (cs := #[.int .i64 t123, .int .i64 t124, .int .i64 t125, .int .i64 (wrap64 (Int.tdiv t121 3600)), .int .i64 (Int.tmod (wrap64 (Int.tdiv t121 60)) 60), .int .i64 0]) ?_ 5 _ rfl; (with_reducible repeat (first | refine blk_drewN ?_ _ | refine blk_drew ?_ | refine blk_alloc ?_ _)); refine blk_put (cs := #[.int .i64 t123, .int .i64 t124, .int .i64 t125, .int .i64 (wrap64 (Int.tdiv t121 3600)), .int .i64 0, .int .i64 0]) ?_ 4 _ rfl; (with_reducible repeat (first | refine blk_drewN ?_ _ | refine blk_drew ?_ | refine blk_alloc ?_ _)); refine blk_put (cs := #[.int .i64 t123, .int .i64 t124, .int .i64 t125, .int .i64 0, .int .i64 0, .int .i64 0]) ?_ 3 _ rfl; (with_reducible repeat (first | refine blk_drewN ?_ _ | refine blk_drew ?_ | refine blk_alloc ?_ _)); refine blk_put (cs := #[.int .i64 t123, .int .i64 t124, .int .i64 0, .int .i64 0, .int .i64 0, .int .i64 0]) ?_ 2 _ rfl; (with_reducible repeat (first | refine blk_drewN ?_ _ | refine blk_drew ?_ | refine blk_alloc ?_ _)); refine blk_put (cs := #[.int .i64 t123, .int .i64 0, .int .i64 0, .int .i64 0, .int .i64 0, .int .i64 0]) ?_ 1 _ rfl; (with_reducible repeat (first | refine blk_drewN ?_ _ | refine blk_drew ?_ | refine blk_alloc ?_ _)); refine blk_put (cs := #[.int .i64 0, .int .i64 0, .int .i64 0, .int .i64 0, .int .i64 0, .int .i64 0]) ?_ 0 _ rfl; (with_reducible repeat (first | refine blk_drewN ?_ _ | refine blk_drew ?_ | refine blk_alloc ?_ _)); exact BK119.out) Tryd.underlying23 rfl (by kernel_rfl)) rfl ?_
    exact ⟨by first | rfl | (simp [errW_none, errW_some] <;> rfl) | (simp [*, errW_none, errW_some] <;> rfl), by repeat (first | (with_reducible first | exact HB.out | apply below_alloc | apply pw_below_drewN | apply below_drew1 | refine below_set ?_ GE119.out) | exact HB.out)⟩
  · replace c4 := Bool.eq_false_iff.mpr c4
    subst c4
    have H1 : (some (0, 0, 0, 0, 0, 0, false)) = some (r1, r2, r3, r4, r5, r6, r7) := by rw [if_neg (show ¬ (false = true) by decide)] at H; exact H
    clear H
    have H := H1
    clear H1
    simp only [Option.some.injEq, Prod.mk.injEq] at H
    obtain ⟨rfl, rfl, rfl, rfl, rfl, rfl, rfl⟩ := H
    go_enter Tryd.func18, Tryd.ntmps18
    go_wp2_with (first | ((with_reducible refine gate_dst (N := 2) rfl ?_); refine box_event ?hg (N := 2) ?hd (cs := #[.int .i64 0, .int .i64 0, .int .i64 0, .int .i64 0, .int .i64 0, .int .i64 0]) (t := 23) ?hr ?_; (case hd => rfl); (case hg => rfl); (case hr => first | (go_simp; done) | (go_simp; rfl)); intro gb119 hg w7 hbox hb; have n0_ := Aside0.mk (below_step (by repeat (first | (with_reducible first | exact HB.out | apply below_alloc | apply pw_below_drewN | apply below_drew1) | exact HB.out)) hb); have n1_ := Aside0.mk (hbox); have n2_ := Aside0.mk ((by rw [hg]; exact (below_size (by repeat (first | (with_reducible first | exact HB.out | apply below_alloc | apply pw_below_drewN | apply below_drew1) | exact HB.out))) : w.heap.size ≤ gb119)); have n3_ := Aside0.mk ((by rw [hg]; exact (below_size (by repeat (first | (with_reducible first | exact HB.out | apply below_alloc | apply pw_below_drewN | apply below_drew1) | exact HB.out))) : w.heap.size ≤ gb119)); clear HB; have HB := n0_; have BK119 := n1_; have GW119 := n2_; have GE119 := n3_; clear n0_ n1_ n2_ n3_; clear hb hbox hg) | ((with_reducible refine gate_callee (f := 32) rfl ?_); refine goesL_ (some 14) rfl rfl Tryd.func32 (by kernel_rfl) rfl #[.int .i64 a0, .int .i64 86400] rfl (by (try simp only [List.map_toArray, List.map_cons, List.map_nil]); first | done | rfl | (simp only [List.length_drop, List.length_take]; rfl)) ?_; (with_reducible refine (longcaseref01_Div.calls a0 86400 t120 t121 t122 _ A2.out (by first | exact hG | exact hG.drewN _ | exact (hG.drewN _).drewN _ | exact hG.below HB.out | exact hG.below (by repeat (first | (with_reducible first | exact HB.out | apply below_alloc | apply pw_below_drewN | apply below_drew1 | refine below_set ?_ (Aside0.out (by assumption))) | exact HB.out)))).mono ?_); rintro e w' ⟨rfl, ⟨nd, rfl⟩⟩; refine ⟨_, rfl, ?_⟩; (try (rw [drewN_self w7]; generalize hq_ : World.drewN w7 _ = w7; have n0_ : Aside0 (w7.heap[gb119]? = some (.cells #[.int .i64 0, .int .i64 0, .int .i64 0, .int .i64 0, .int .i64 0, .int .i64 0] 23 (0, 0))) := ⟨by rw [← hq_]; exact (by (with_reducible repeat (first | refine blk_drewN ?_ _ | refine blk_drew ?_ | refine blk_alloc ?_ _)); exact BK119.out)⟩; have n1_ : Aside0 (Below w.heap.size w w7) := ⟨by rw [← hq_]; exact (by repeat (first | (with_reducible first | exact HB.out | apply below_alloc | apply pw_below_drewN | apply below_drew1 | refine below_set ?_ GE119.out) | exact HB.out))⟩; clear BK119 HB hq_; have BK119 := n0_; have HB := n1_; clear n0_ n1_))) | ((with_reducible refine gate_callee (f := 33) rfl ?_); refine goesL_ (some 20) rfl rfl Tryd.func33 (by kernel_rfl) rfl #[.int .i64 t120] rfl (by (try simp only [List.map_toArray, List.map_cons, List.map_nil]); first | done | rfl | (simp only [List.length_drop, List.length_take]; rfl)) ?_; (with_reducible refine (longcaseref02_Date.calls k t120 t123 t124 t125 false _ A3.out (by first | exact hG | exact hG.drewN _ | exact (hG.drewN _).drewN _ | exact hG.below HB.out | exact hG.below (by repeat (first | (with_reducible first | exact HB.out | apply below_alloc | apply pw_below_drewN | apply below_drew1 | refine below_set ?_ (Aside0.out (by assumption))) | exact HB.out)))).mono ?_); rintro e w' ⟨rfl, ⟨nd, rfl⟩⟩; refine ⟨_, rfl, ?_⟩; (try (rw [drewN_self w7]; generalize hq_ : World.drewN w7 _ = w7; have n0_ : Aside0 (w7.heap[gb119]? = some (.cells #[.int .i64 0, .int .i64 0, .int .i64 0, .int .i64 0, .int .i64 0, .int .i64 0] 23 (0, 0))) := ⟨by rw [← hq_]; exact (by (with_reducible repeat (first | refine blk_drewN ?_ _ | refine blk_drew ?_ | refine blk_alloc ?_ _)); exact BK119.out)⟩; have n1_ : Aside0 (Below w.heap.size w w7) := ⟨by rw [← hq_]; exact (by repeat (first | (with_reducible first | exact HB.out | apply below_alloc | apply pw_below_drewN | apply below_drew1 | refine below_set ?_ GE119.out) | exact HB.out))⟩; clear BK119 HB hq_; have BK119 := n0_; have HB := n1_; clear n0_ n1_)); have hcz8_0 : w7.cell? ⟨gb119, 0, none⟩ = some (.int .i64 0) := (blk_cell BK119.out 0).trans rfl; have hcz8_1 : w7.cell? ⟨gb119, 1, none⟩ = some (.int .i64 0) := (blk_cell BK119.out 1).trans rfl; have hcz8_2 : w7.cell? ⟨gb119, 2, none⟩ = some (.int .i64 0) := (blk_cell BK119.out 2).trans rfl; have hcz8_3 : w7.cell? ⟨gb119, 3, none⟩ = some (.int .i64 0) := (blk_cell BK119.out 3).trans rfl; have hcz8_4 : w7.cell? ⟨gb119, 4, none⟩ = some (.int .i64 0) := (blk_cell BK119.out 4).trans rfl; have hcz8_5 : w7.cell? ⟨gb119, 5, none⟩ = some (.int .i64 0) := (blk_cell BK119.out 5).trans rfl; have hfz8_0 := blk_frozen BK119.out 0; have hfz8_1 := blk_frozen BK119.out 1; have hfz8_2 := blk_frozen BK119.out 2; have hfz8_3 := blk_frozen BK119.out 3; have hfz8_4 := blk_frozen BK119.out 4; have hfz8_5 := blk_frozen BK119.out 5))
    refine bodyPost_ret (results_ct rfl _ _ gb119 23 #[.int .i64 0, .int .i64 0, .int .i64 0, .int .i64 0, .int .i64 0, .int .i64 0] (0, 0) _ rfl (by (with_reducible repeat (first | refine blk_drewN ?_ _ | refine blk_drew ?_ | refine blk_alloc ?_ _)); refine blk_put (cs := #[.int .i64 0, .int .i64 0, .int .i64 0, .int .i64 0, .int .i64 0, .int .i64 0]) ?_ 5 _ rfl; (with_reducible repeat (first | refine blk_drewN ?_ _ | refine blk_drew ?_ | refine blk_alloc ?_ _)); refine blk_put (cs := #[.int .i64 0, .int .i64 0, .int .i64 0, .int .i64 0, .int .i64 0, .int .i64 0]) ?_ 4 _ rfl; (with_reducible repeat (first | refine blk_drewN ?_ _ | refine blk_drew ?_ | refine blk_alloc ?_ _)); refine blk_put (cs := #[.int .i64 0, .int .i64 0, .int .i64 0, .int .i64 0, .int .i64 0, .int .i64 0]) ?_ 3 _ rfl; (with_reducible repeat (first | refine blk_drewN ?_ _ | refine blk_drew ?_ | refine blk_alloc ?_ _)); refine blk_put (cs := #[.int .i64 0, .int .i64 0, .int .i64 0, .int .i64 0, .int .i64 0, .int .i64 0]) ?_ 2 _ rfl; (with_reducible repeat (first | refine blk_drewN ?_ _ | refine blk_drew ?_ | refine blk_alloc ?_ _)); refine blk_put (cs := #[.int .i64 0, .int .i64 0, .int .i64 0, .int .i64 0, .int .i64 0, .int .i64 0]) ?_ 1 _ rfl; (with_reducible repeat (first | refine blk_drewN ?_ _ | refine blk_drew ?_ | refine blk_alloc ?_ _)); refine blk_put (cs := #[.int .i64 0, .int .i64 0, .int .i64 0, .int .i64 0, .int .i64 0, .int .i64 0]) ?_ 0 _ rfl; (with_reducible repeat (first | refine blk_drewN ?_ _ | refine blk_drew ?_ | refine blk_alloc ?_ _)); exact BK119.out) Tryd.underlying23 rfl (by kernel_rfl)) rfl ?_
    exact ⟨by first | rfl | (simp [errW_none, errW_some] <;> rfl) | (simp [*, errW_none, errW_some] <;> rfl), by repeat (first | (with_reducible first | exact HB.out | apply below_alloc | apply pw_below_drewN | apply below_drew1 | refine below_set ?_ GE119.out) | exact HB.out)⟩

/-! ### longcaseref03_digits: function 29 -/
def longcaseref03_digits.l0 : Nat → Int → Int → ByteArray → Option (ByteArray)
  | 0, _, _, _ => none
  | k + 1, x0, x1, x5 => if x0 > 0 then ((some (([(wrap64 (48 + (Int.tmod x0 10))) % 256] : List Int) : List Int)).bind fun y127 => (if (strOfNums y127).size + x5.size ≤ 9223372036854775807 then (longcaseref03_digits.l0 k (wrap64 (Int.tdiv x0 10)) (wrap64 (x1 - 1)) ((strOfNums y127) ++ x5)) else (none))) else (if x1 > 0 then ((some (([(wrap64 (48 + (Int.tmod x0 10))) % 256] : List Int) : List Int)).bind fun y130 => (if (strOfNums y130).size + x5.size ≤ 9223372036854775807 then (longcaseref03_digits.l0 k (wrap64 (Int.tdiv x0 10)) (wrap64 (x1 - 1)) ((strOfNums y130) ++ x5)) else (none))) else (some x5))
def longcaseref03_digits.f (k : Nat) (a0 : Int) (a1 : Int) : Option (ByteArray) := longcaseref03_digits.l0 k a0 a1 (⟨#[]⟩ : ByteArray)
theorem longcaseref03_digits.mono_l : ∀ k, (∀ y0 y1 y2, LeO (longcaseref03_digits.l0 k y0 y1 y2) (longcaseref03_digits.l0 (k + 1) y0 y1 y2))
  | 0 => fun _ _ _ r h => by simp [longcaseref03_digits.l0] at h
  | k + 1 => by
    have ih0 := longcaseref03_digits.mono_l k
    · intro y0 y1 y2
      unfold longcaseref03_digits.l0
      repeat' first
      | (with_reducible exact ih0 _ _ _)
      | (with_reducible exact LeO.refl _)
      | (with_reducible exact LeO.none _)
      | (with_reducible refine LeO.ite ?_ ?_)
      | (with_reducible refine LeO.bind ?_ (fun _ => ?_))
      | exact ih0 _ _ _
      | exact LeO.none _
      | refine LeO.ite ?_ ?_
      | refine LeO.bind ?_ (fun _ => ?_)
theorem longcaseref03_digits.mono : ∀ a0 a1 k, LeO (longcaseref03_digits.f k a0 a1) (longcaseref03_digits.f (k + 1) a0 a1) := by
  intro a0 a1 k
  have ih0 := longcaseref03_digits.mono_l k
  unfold longcaseref03_digits.f
  repeat' first
      | (with_reducible exact ih0 _ _ _)
      | (with_reducible exact LeO.refl _)
      | (with_reducible exact LeO.none _)
      | (with_reducible refine LeO.ite ?_ ?_)
      | (with_reducible refine LeO.bind ?_ (fun _ => ?_))
      | exact ih0 _ _ _
      | exact LeO.none _
      | refine LeO.ite ?_ ?_
      | refine LeO.bind ?_ (fun _ => ?_)
set_option maxHeartbeats 8000000 in
set_option maxRecDepth 100000 in
theorem longcaseref03_digits.calls (k : Nat) (a0 : Int) (a1 : Int) (r : ByteArray) (w : World) (h : longcaseref03_digits.f k a0 a1 = some r) : Glob w →
    Calls Tryd.prog 29 #[.int .i64 a0, .int .i64 a1] w fun e w' => e = .returned (.string r) ∧ Below w.heap.size w w' := by
  intro hG
  have HB := Aside0.mk (Below.refl w.heap.size w)
  have H : (longcaseref03_digits.l0 k a0 a1 (⟨#[]⟩ : ByteArray)) = some r := h
  clear h
  have H' := Aside0.mk H
  clear H
  go_enter Tryd.func29, Tryd.ntmps29
  go_wp2
  go_loopg [0, 1, 5] k (fun kq v0 v1 v5 w' => ∃ (x0_1 : Int) (x1_1 : Int) (x5_1 : ByteArray), v0 = .int .i64 x0_1 ∧ v1 = .int .i64 x1_1 ∧ v5 = .string x5_1 ∧ Aside0 (longcaseref03_digits.l0 kq x0_1 x1_1 x5_1 = some r) ∧ Aside0 (kq ≤ k) ∧ Aside0 (Below w.heap.size w w'))
  case atStart => exact ⟨(a0), (a1), ((⟨#[]⟩ : ByteArray)), (by first | rfl | (simp; done) | (simp [*]; done)), (by first | rfl | (simp; done) | (simp [*]; done)), (by first | rfl | (simp; done) | (simp [*]; done)), H', ⟨Nat.le_refl _⟩, ⟨by repeat (first | (with_reducible first | exact HB.out | apply below_alloc | apply pw_below_drewN | apply below_drew1) | exact HB.out)⟩⟩
  case round =>
    clear H'
    try clear c2
    try clear p2
    obtain ⟨x0_1, x1_1, x5_1, rfl, rfl, rfl, HA, HK1, HB⟩ := hrel
    cases gk with
    | zero => exact absurd HA.out (by simp [longcaseref03_digits.l0])
    | succ k1 =>
      have H := HA.out
      clear HA
      simp only [longcaseref03_digits.l0] at H
      by_cases c3 : x0_1 > 0
      · rw [if_pos c3] at H
        have c3b0 : decide (0 < x0_1) = true := decide_eq_true c3
        clear c3
        obtain ⟨y127, hy127⟩ : ∃ y_ : List Int, y_ = (([(wrap64 (48 + (Int.tmod x0_1 10))) % 256] : List Int)) := ⟨_, rfl⟩
        replace H : (if (strOfNums y127).size + x5_1.size ≤ 9223372036854775807 then (longcaseref03_digits.l0 k1 (wrap64 (Int.tdiv x0_1 10)) (wrap64 (x1_1 - 1)) ((strOfNums y127) ++ x5_1)) else (none)) = some r := by first | (rw [hy127]; with_reducible exact H) | (have H2_ := (Option.bind_some _ _).symm.trans H; rw [hy127]; with_reducible exact H2_) | (have H2_ := (Option.bind_some _ _).symm.trans H; with_reducible exact H2_) | with_reducible exact H | (rw [hy127]; exact H) | exact H
        have Ny127 := Aside0.mk hy127
        clear hy127
        by_cases c4 : (strOfNums y127).size + x5_1.size ≤ 9223372036854775807
        · rw [if_pos c4] at H
          have c4b0 := eq_true c4
          have c4b1 : decide ((strOfNums y127).size + x5_1.size ≤ 9223372036854775807) = true := decide_eq_true c4
          try have c4b2 : (9223372036854775807 < (strOfNums y127).size + x5_1.size) = False := eq_false (Nat.not_lt.2 c4)
          have H' := Aside0.mk H
          clear H
          go_wp2_with (first | ((with_reducible refine gate_dst (N := 16) rfl ?_); refine Kd.R_lit (Kd.int .u8) _ 5 ?hg (N := 16) ?hd (xs := ([(wrap64 (48 + (Int.tmod x0_1 10))) % 256] : List Int)) (inner := [.int .u8 ((wrap64 (48 + (Int.tmod x0_1 10))) % 256)]) (ok := fun _ => True) (okp := fun _ => True) ?hr ?hp (fun _ hk => hk) trivial (Below.refl _ _) (Nat.le_refl _) (by simp) ?_; (case hd => rfl); (case hg => rfl); (case hr => first | (go_simp; done) | (go_simp; rfl)); (case hp => exact (Reps.one (show Kd.M (Kd.int .u8) _ _ _ ((wrap64 (48 + (Int.tmod x0_1 10))) % 256) [.int .u8 ((wrap64 (48 + (Int.tmod x0_1 10))) % 256)] from rfl) (Reps.none _ _))); intro v128 w5 ho6 hb hg_ hnew_; clear hg_ hnew_; (first | rw [← Ny127.out] at ho6 | (simp only [Int.reduceToNat] at ho6; rw [← Ny127.out] at ho6)); have n0_ := Aside0.mk (Kd.R_lower ho6 (below_size (by repeat (first | (with_reducible first | exact HB.out | apply below_alloc | apply pw_below_drewN | apply below_drew1) | exact HB.out)))); have n1_ := Aside0.mk (below_step (by repeat (first | (with_reducible first | exact HB.out | apply below_alloc | apply pw_below_drewN | apply below_drew1) | exact HB.out)) hb); clear HB; have HO129 := n0_; have HB := n1_; clear n0_ n1_; clear hb ho6; have hcv7 := own_string (P := Tryd.prog) Tryd.underlying62 Tryd.underlying5 Tryd.underlying9 (Kd.own_of_R HO129.out)))
          go_roundg k1
          case measure => have := HK1.out; omega
          case rel => exact ⟨(wrap64 (Int.tdiv x0_1 10)), (wrap64 (x1_1 - 1)), ((strOfNums y127) ++ x5_1), (by first | rfl | (simp; done) | (simp [*]; done)), (by first | rfl | (simp; done) | (simp [*]; done)), (by first | rfl | (simp; done) | (simp [*]; done)), H', ⟨by have := HK1.out; omega⟩, ⟨by repeat (first | (with_reducible first | exact HB.out | apply below_alloc | apply pw_below_drewN | apply below_drew1) | exact HB.out)⟩⟩
        · rw [if_neg c4] at H
          exact absurd H (by simp)
      · rw [if_neg c3] at H
        have c3b0 : decide (0 < x0_1) = false := decide_eq_false c3
        clear c3
        by_cases c8 : x1_1 > 0
        · rw [if_pos c8] at H
          have c8b0 : decide (0 < x1_1) = true := decide_eq_true c8
          clear c8
          obtain ⟨y130, hy130⟩ : ∃ y_ : List Int, y_ = (([(wrap64 (48 + (Int.tmod x0_1 10))) % 256] : List Int)) := ⟨_, rfl⟩
          replace H : (if (strOfNums y130).size + x5_1.size ≤ 9223372036854775807 then (longcaseref03_digits.l0 k1 (wrap64 (Int.tdiv x0_1 10)) (wrap64 (x1_1 - 1)) ((strOfNums y130) ++ x5_1)) else (none)) = some r := by first | (rw [hy130]; with_reducible exact H) | (have H2_ := (Option.bind_some _ _).symm.trans H; rw [hy130]; with_reducible exact H2_) | (have H2_ := (Option.bind_some _ _).symm.trans H; with_reducible exact H2_) | with_reducible exact H | (rw [hy130]; exact H) | exact H
          have Ny130 := Aside0.mk hy130
          clear hy130
          by_cases c9 : (strOfNums y130).size + x5_1.size ≤ 9223372036854775807
          · rw [if_pos c9] at H
            have c9b0 := eq_true c9
            have c9b1 : decide ((strOfNums y130).size + x5_1.size ≤ 9223372036854775807) = true := decide_eq_true c9
            try have c9b2 : (9223372036854775807 < (strOfNums y130).size + x5_1.size) = False := eq_false (Nat.not_lt.2 c9)
            have H' := Aside0.mk H
            clear H
            go_wp2_with (first | ((with_reducible refine gate_dst (N := 16) rfl ?_); refine Kd.R_lit (Kd.int .u8) _ 5 ?hg (N := 16) ?hd (xs := ([(wrap64 (48 + (Int.tmod x0_1 10))) % 256] : List Int)) (inner := [.int .u8 ((wrap64 (48 + (Int.tmod x0_1 10))) % 256)]) (ok := fun _ => True) (okp := fun _ => True) ?hr ?hp (fun _ hk => hk) trivial (Below.refl _ _) (Nat.le_refl _) (by simp) ?_; (case hd => rfl); (case hg => rfl); (case hr => first | (go_simp; done) | (go_simp; rfl)); (case hp => exact (Reps.one (show Kd.M (Kd.int .u8) _ _ _ ((wrap64 (48 + (Int.tmod x0_1 10))) % 256) [.int .u8 ((wrap64 (48 + (Int.tmod x0_1 10))) % 256)] from rfl) (Reps.none _ _))); intro v131 w10 ho11 hb hg_ hnew_; clear hg_ hnew_; (first | rw [← Ny130.out] at ho11 | (simp only [Int.reduceToNat] at ho11; rw [← Ny130.out] at ho11)); have n0_ := Aside0.mk (Kd.R_lower ho11 (below_size (by repeat (first | (with_reducible first | exact HB.out | apply below_alloc | apply pw_below_drewN | apply below_drew1) | exact HB.out)))); have n1_ := Aside0.mk (below_step (by repeat (first | (with_reducible first | exact HB.out | apply below_alloc | apply pw_below_drewN | apply below_drew1) | exact HB.out)) hb); clear HB; have HO132 := n0_; have HB := n1_; clear n0_ n1_; clear hb ho11; have hcv12 := own_string (P := Tryd.prog) Tryd.underlying62 Tryd.underlying5 Tryd.underlying9 (Kd.own_of_R HO132.out)))
            go_roundg k1
            case measure => have := HK1.out; omega
            case rel => exact ⟨(wrap64 (Int.tdiv x0_1 10)), (wrap64 (x1_1 - 1)), ((strOfNums y130) ++ x5_1), (by first | rfl | (simp; done) | (simp [*]; done)), (by first | rfl | (simp; done) | (simp [*]; done)), (by first | rfl | (simp; done) | (simp [*]; done)), H', ⟨by have := HK1.out; omega⟩, ⟨by repeat (first | (with_reducible first | exact HB.out | apply below_alloc | apply pw_below_drewN | apply below_drew1) | exact HB.out)⟩⟩
          · rw [if_neg c9] at H
            exact absurd H (by simp)
        · rw [if_neg c8] at H
          have c8b0 : decide (0 < x1_1) = false := decide_eq_false c8
          clear c8
          obtain rfl := Option.some.inj H
          go_wp2
          go_ret
          exact ⟨by first | rfl | (simp [errW_none, errW_some] <;> rfl) | (simp [*, errW_none, errW_some] <;> rfl), by repeat (first | (with_reducible first | exact HB.out | apply below_alloc | apply pw_below_drewN | apply below_drew1) | exact HB.out)⟩

end Go.Proofs.YtpmcmkobpjobbaaDoor.PPR
