-- Written by a program of the session's out of the translation. Not trusted: Lean checks it.
import Derived.Test.YtgggjfclhjpboaaPOctBx0
namespace Go.Proofs.Ytgggjfclhjpboaa.POctB
open Go.RowKit Go.Proofs.Ytgggjfclhjpboaa.Hand Go.Proofs.Ytgggjfclhjpboaa.POctA Go.Proofs.YtgggjfclhjpboaaW.PrintWords Go.Proofs.YtgggjfclhjpboaaW.PrintLast Go.Proofs.YtgggjfclhjpboaaW.PrintMore
attribute [local go_sem] max2_int min2_int max_two min_two max_three min_three max_four min_four   -- for this text's walks alone
set_option linter.unusedVariables false
set_option linter.unusedSimpArgs false

-- BY HAND: function 7 (longcaselaw04_shown)

-- BY HAND: function 8 (octets_Put)

-- BY HAND: function 9 (octets_Int)

/-! ### longcaselaw04_OctetsBack: function 3 -/
def longcaselaw04_OctetsBack.f (k : Nat) (l0 : List Int) (l1 : List Int) (a2 : Int) (a3 : Int) : Option (Bool) := (longcaselaw04_shown.f).bind fun t101 => (if 0 ≤ (mn (l0.length : Int) 50) then (if (mn (l0.length : Int) 50) ≤ (l0.length : Int) then (if 0 ≤ (mn (l1.length : Int) 50) then (if (mn (l1.length : Int) 50) ≤ (l1.length : Int) then ((octets_Put.f k (l0.take ((mn (l0.length : Int) 50) : Int).toNat) (wrap64 (1 + (Go.bits .and .i64 a3 7))) (IntKind.u64.wrap (a2))).bind fun t104 => (if t104.length + (l1.take ((mn (l1.length : Int) 50) : Int).toNat).length < 140737488355328 then ((some (t104 ++ (l1.take ((mn (l1.length : Int) 50) : Int).toNat) : List Int)).bind fun y107 => ((octets_Int.f y107 ((l0.take ((mn (l0.length : Int) 50) : Int).toNat).length : Int) (wrap64 (1 + (Go.bits .and .i64 a3 7)))).bind fun bt110 => (if t101 = true then (if bt110.2 = true then (if 0 ≤ (IntKind.u64.wrap (wrap64 (64 - (wrap64 (8 * (wrap64 (1 + (Go.bits .and .i64 a3 7)))))))) then (if bt110.1 = (shr .i64 (shl .i64 a2 (IntKind.u64.wrap (wrap64 (64 - (wrap64 (8 * (wrap64 (1 + (Go.bits .and .i64 a3 7))))))))) (IntKind.u64.wrap (wrap64 (64 - (wrap64 (8 * (wrap64 (1 + (Go.bits .and .i64 a3 7))))))))) then (some ((y107.length : Int) == (wrap64 ((wrap64 (((l0.take ((mn (l0.length : Int) 50) : Int).toNat).length : Int) + (wrap64 (1 + (Go.bits .and .i64 a3 7))))) + ((l1.take ((mn (l1.length : Int) 50) : Int).toNat).length : Int))))) else (some false)) else (none)) else (some false)) else (some false)))) else (none))) else (none)) else (none)) else (none)) else (none))
theorem longcaselaw04_OctetsBack.mono : ∀ a0 a1 a2 a3 k, LeO (longcaselaw04_OctetsBack.f k a0 a1 a2 a3) (longcaselaw04_OctetsBack.f (k + 1) a0 a1 a2 a3) := by
  intro a0 a1 a2 a3 k
  unfold longcaselaw04_OctetsBack.f
  repeat' first
      | (with_reducible exact octets_Put.mono _ _ _ _)
      | (with_reducible exact LeO.refl _)
      | (with_reducible exact LeO.none _)
      | (with_reducible refine LeO.ite ?_ ?_)
      | (with_reducible refine LeO.bind ?_ (fun _ => ?_))
      | exact octets_Put.mono _ _ _ _
      | exact LeO.none _
      | refine LeO.ite ?_ ?_
      | refine LeO.bind ?_ (fun _ => ?_)
set_option maxHeartbeats 8000000 in
set_option maxRecDepth 100000 in
theorem longcaselaw04_OctetsBack.calls (k : Nat) (A0 : Option Addr) (c0 : Nat) (l0 : List Int) (A1 : Option Addr) (c1 : Nat) (l1 : List Int) (a2 : Int) (a3 : Int) (r : Bool) (w : World) (hr0 : Kd.C (Kd.int .u8) w A0 l0.length l0) (hc0 : l0.length ≤ c0) (hr1 : Kd.C (Kd.int .u8) w A1 l1.length l1) (hc1 : l1.length ≤ c1) (h : longcaselaw04_OctetsBack.f k l0 l1 a2 a3 = some r) :
    Calls Try.prog 3 #[.slice A0 l0.length c0, .slice A1 l1.length c1, .int .i64 a2, .int .i64 a3] w fun e w' => e = .returned (.bool r) ∧ Below w.heap.size w w' := by
  have HR0 := Aside0.mk hr0
  have HC0 := Aside0.mk hc0
  clear hr0 hc0
  have HR1 := Aside0.mk hr1
  have HC1 := Aside0.mk hc1
  clear hr1 hc1
  have HB := Aside0.mk (Below.refl w.heap.size w)
  have H : ((longcaselaw04_shown.f).bind fun t101 => (if 0 ≤ (mn (l0.length : Int) 50) then (if (mn (l0.length : Int) 50) ≤ (l0.length : Int) then (if 0 ≤ (mn (l1.length : Int) 50) then (if (mn (l1.length : Int) 50) ≤ (l1.length : Int) then ((octets_Put.f k (l0.take ((mn (l0.length : Int) 50) : Int).toNat) (wrap64 (1 + (Go.bits .and .i64 a3 7))) (IntKind.u64.wrap (a2))).bind fun t104 => (if t104.length + (l1.take ((mn (l1.length : Int) 50) : Int).toNat).length < 140737488355328 then ((some (t104 ++ (l1.take ((mn (l1.length : Int) 50) : Int).toNat) : List Int)).bind fun y107 => ((octets_Int.f y107 ((l0.take ((mn (l0.length : Int) 50) : Int).toNat).length : Int) (wrap64 (1 + (Go.bits .and .i64 a3 7)))).bind fun bt110 => (if t101 = true then (if bt110.2 = true then (if 0 ≤ (IntKind.u64.wrap (wrap64 (64 - (wrap64 (8 * (wrap64 (1 + (Go.bits .and .i64 a3 7)))))))) then (if bt110.1 = (shr .i64 (shl .i64 a2 (IntKind.u64.wrap (wrap64 (64 - (wrap64 (8 * (wrap64 (1 + (Go.bits .and .i64 a3 7))))))))) (IntKind.u64.wrap (wrap64 (64 - (wrap64 (8 * (wrap64 (1 + (Go.bits .and .i64 a3 7))))))))) then (some ((y107.length : Int) == (wrap64 ((wrap64 (((l0.take ((mn (l0.length : Int) 50) : Int).toNat).length : Int) + (wrap64 (1 + (Go.bits .and .i64 a3 7))))) + ((l1.take ((mn (l1.length : Int) 50) : Int).toNat).length : Int))))) else (some false)) else (none)) else (some false)) else (some false)))) else (none))) else (none)) else (none)) else (none)) else (none))) = some r := h
  clear h
  replace H := Option.bind_eq_some_iff.mp H
  obtain ⟨t101, A50, H⟩ := H
  replace H : (if 0 ≤ (mn (l0.length : Int) 50) then (if (mn (l0.length : Int) 50) ≤ (l0.length : Int) then (if 0 ≤ (mn (l1.length : Int) 50) then (if (mn (l1.length : Int) 50) ≤ (l1.length : Int) then ((octets_Put.f k (l0.take ((mn (l0.length : Int) 50) : Int).toNat) (wrap64 (1 + (Go.bits .and .i64 a3 7))) (IntKind.u64.wrap (a2))).bind fun t104 => (if t104.length + (l1.take ((mn (l1.length : Int) 50) : Int).toNat).length < 140737488355328 then ((some (t104 ++ (l1.take ((mn (l1.length : Int) 50) : Int).toNat) : List Int)).bind fun y107 => ((octets_Int.f y107 ((l0.take ((mn (l0.length : Int) 50) : Int).toNat).length : Int) (wrap64 (1 + (Go.bits .and .i64 a3 7)))).bind fun bt110 => (if t101 = true then (if bt110.2 = true then (if 0 ≤ (IntKind.u64.wrap (wrap64 (64 - (wrap64 (8 * (wrap64 (1 + (Go.bits .and .i64 a3 7)))))))) then (if bt110.1 = (shr .i64 (shl .i64 a2 (IntKind.u64.wrap (wrap64 (64 - (wrap64 (8 * (wrap64 (1 + (Go.bits .and .i64 a3 7))))))))) (IntKind.u64.wrap (wrap64 (64 - (wrap64 (8 * (wrap64 (1 + (Go.bits .and .i64 a3 7))))))))) then (some ((y107.length : Int) == (wrap64 ((wrap64 (((l0.take ((mn (l0.length : Int) 50) : Int).toNat).length : Int) + (wrap64 (1 + (Go.bits .and .i64 a3 7))))) + ((l1.take ((mn (l1.length : Int) 50) : Int).toNat).length : Int))))) else (some false)) else (none)) else (some false)) else (some false)))) else (none))) else (none)) else (none)) else (none)) else (none)) = some r := H
  have A5 := Aside0.mk A50
  clear A50
  obtain ⟨ji6, hji6⟩ : ∃ j_ : Int, (mn (l0.length : Int) 50) = j_ := ⟨_, rfl⟩
  replace H : (if 0 ≤ (ji6) then (if (ji6) ≤ (l0.length : Int) then (if 0 ≤ (mn (l1.length : Int) 50) then (if (mn (l1.length : Int) 50) ≤ (l1.length : Int) then ((octets_Put.f k (l0.take ((ji6) : Int).toNat) (wrap64 (1 + (Go.bits .and .i64 a3 7))) (IntKind.u64.wrap (a2))).bind fun t104 => (if t104.length + (l1.take ((mn (l1.length : Int) 50) : Int).toNat).length < 140737488355328 then ((some (t104 ++ (l1.take ((mn (l1.length : Int) 50) : Int).toNat) : List Int)).bind fun y107 => ((octets_Int.f y107 ((l0.take ((ji6) : Int).toNat).length : Int) (wrap64 (1 + (Go.bits .and .i64 a3 7)))).bind fun bt110 => (if t101 = true then (if bt110.2 = true then (if 0 ≤ (IntKind.u64.wrap (wrap64 (64 - (wrap64 (8 * (wrap64 (1 + (Go.bits .and .i64 a3 7)))))))) then (if bt110.1 = (shr .i64 (shl .i64 a2 (IntKind.u64.wrap (wrap64 (64 - (wrap64 (8 * (wrap64 (1 + (Go.bits .and .i64 a3 7))))))))) (IntKind.u64.wrap (wrap64 (64 - (wrap64 (8 * (wrap64 (1 + (Go.bits .and .i64 a3 7))))))))) then (some ((y107.length : Int) == (wrap64 ((wrap64 (((l0.take ((ji6) : Int).toNat).length : Int) + (wrap64 (1 + (Go.bits .and .i64 a3 7))))) + ((l1.take ((mn (l1.length : Int) 50) : Int).toNat).length : Int))))) else (some false)) else (none)) else (some false)) else (some false)))) else (none))) else (none)) else (none)) else (none)) else (none)) = some r := by first | (rw [hji6] at H; exact H) | (simp only [hji6] at H ⊢; exact H)
  (try rw [hji6] at A5)
  (try (have hji6h : ji6 ≤ 50 := by (rw [← hji6]; unfold mn; (repeat' split) <;> omega)))
  (try (have hji6g : ji6 ≤ 64 := by omega))
  (try (have hji6l : 0 ≤ ji6 := by (rw [← hji6]; unfold mn; (repeat' split) <;> omega)))
  (try (have hji6m : 0 ≤ ji6 := by omega))
  have hji6_ : (if 50 < (l0.length : Int) then 50 else (l0.length : Int)) = ji6 := hji6
  by_cases c7 : 0 ≤ (ji6)
  · rw [if_pos c7] at H
    have c7b0 := eq_true c7
    have c7b1 : decide (0 ≤ (ji6)) = true := decide_eq_true c7
    clear c7
    by_cases c8 : (ji6) ≤ (l0.length : Int)
    · rw [if_pos c8] at H
      have c8b0 := eq_true c8
      have c8b1 : decide ((ji6) ≤ (l0.length : Int)) = true := decide_eq_true c8
      clear c8
      obtain ⟨ji9, hji9⟩ : ∃ j_ : Int, (mn (l1.length : Int) 50) = j_ := ⟨_, rfl⟩
      replace H : (if 0 ≤ (ji9) then (if (ji9) ≤ (l1.length : Int) then ((octets_Put.f k (l0.take ((ji6) : Int).toNat) (wrap64 (1 + (Go.bits .and .i64 a3 7))) (IntKind.u64.wrap (a2))).bind fun t104 => (if t104.length + (l1.take ((ji9) : Int).toNat).length < 140737488355328 then ((some (t104 ++ (l1.take ((ji9) : Int).toNat) : List Int)).bind fun y107 => ((octets_Int.f y107 ((l0.take ((ji6) : Int).toNat).length : Int) (wrap64 (1 + (Go.bits .and .i64 a3 7)))).bind fun bt110 => (if t101 = true then (if bt110.2 = true then (if 0 ≤ (IntKind.u64.wrap (wrap64 (64 - (wrap64 (8 * (wrap64 (1 + (Go.bits .and .i64 a3 7)))))))) then (if bt110.1 = (shr .i64 (shl .i64 a2 (IntKind.u64.wrap (wrap64 (64 - (wrap64 (8 * (wrap64 (1 + (Go.bits .and .i64 a3 7))))))))) (IntKind.u64.wrap (wrap64 (64 - (wrap64 (8 * (wrap64 (1 + (Go.bits .and .i64 a3 7))))))))) then (some ((y107.length : Int) == (wrap64 ((wrap64 (((l0.take ((ji6) : Int).toNat).length : Int) + (wrap64 (1 + (Go.bits .and .i64 a3 7))))) + ((l1.take ((ji9) : Int).toNat).length : Int))))) else (some false)) else (none)) else (some false)) else (some false)))) else (none))) else (none)) else (none)) = some r := by first | (rw [hji9] at H; exact H) | (simp only [hji9] at H ⊢; exact H)
      (try rw [hji9] at A5)
      (try (have hji9h : ji9 ≤ 50 := by (rw [← hji9]; unfold mn; (repeat' split) <;> omega)))
      (try (have hji9g : ji9 ≤ 64 := by omega))
      (try (have hji9l : 0 ≤ ji9 := by (rw [← hji9]; unfold mn; (repeat' split) <;> omega)))
      (try (have hji9m : 0 ≤ ji9 := by omega))
      have hji9_ : (if 50 < (l1.length : Int) then 50 else (l1.length : Int)) = ji9 := hji9
      by_cases c10 : 0 ≤ (ji9)
      · rw [if_pos c10] at H
        have c10b0 := eq_true c10
        have c10b1 : decide (0 ≤ (ji9)) = true := decide_eq_true c10
        clear c10
        by_cases c11 : (ji9) ≤ (l1.length : Int)
        · rw [if_pos c11] at H
          have c11b0 := eq_true c11
          have c11b1 : decide ((ji9) ≤ (l1.length : Int)) = true := decide_eq_true c11
          clear c11
          replace H := Option.bind_eq_some_iff.mp H
          obtain ⟨t104, A120, H⟩ := H
          replace H : (if t104.length + (l1.take ((ji9) : Int).toNat).length < 140737488355328 then ((some (t104 ++ (l1.take ((ji9) : Int).toNat) : List Int)).bind fun y107 => ((octets_Int.f y107 ((l0.take ((ji6) : Int).toNat).length : Int) (wrap64 (1 + (Go.bits .and .i64 a3 7)))).bind fun bt110 => (if t101 = true then (if bt110.2 = true then (if 0 ≤ (IntKind.u64.wrap (wrap64 (64 - (wrap64 (8 * (wrap64 (1 + (Go.bits .and .i64 a3 7)))))))) then (if bt110.1 = (shr .i64 (shl .i64 a2 (IntKind.u64.wrap (wrap64 (64 - (wrap64 (8 * (wrap64 (1 + (Go.bits .and .i64 a3 7))))))))) (IntKind.u64.wrap (wrap64 (64 - (wrap64 (8 * (wrap64 (1 + (Go.bits .and .i64 a3 7))))))))) then (some ((y107.length : Int) == (wrap64 ((wrap64 (((l0.take ((ji6) : Int).toNat).length : Int) + (wrap64 (1 + (Go.bits .and .i64 a3 7))))) + ((l1.take ((ji9) : Int).toNat).length : Int))))) else (some false)) else (none)) else (some false)) else (some false)))) else (none)) = some r := H
          have A12 := Aside0.mk A120
          clear A120
          by_cases c13 : t104.length + (l1.take ((ji9) : Int).toNat).length < 140737488355328
          · rw [if_pos c13] at H
            have LMc13 := Aside0.mk c13
            clear c13
            obtain ⟨y107, hy107⟩ : ∃ y_ : List Int, y_ = (t104 ++ (l1.take ((ji9) : Int).toNat)) := ⟨_, rfl⟩
            replace H : ((octets_Int.f y107 ((l0.take ((ji6) : Int).toNat).length : Int) (wrap64 (1 + (Go.bits .and .i64 a3 7)))).bind fun bt110 => (if t101 = true then (if bt110.2 = true then (if 0 ≤ (IntKind.u64.wrap (wrap64 (64 - (wrap64 (8 * (wrap64 (1 + (Go.bits .and .i64 a3 7)))))))) then (if bt110.1 = (shr .i64 (shl .i64 a2 (IntKind.u64.wrap (wrap64 (64 - (wrap64 (8 * (wrap64 (1 + (Go.bits .and .i64 a3 7))))))))) (IntKind.u64.wrap (wrap64 (64 - (wrap64 (8 * (wrap64 (1 + (Go.bits .and .i64 a3 7))))))))) then (some ((y107.length : Int) == (wrap64 ((wrap64 (((l0.take ((ji6) : Int).toNat).length : Int) + (wrap64 (1 + (Go.bits .and .i64 a3 7))))) + ((l1.take ((ji9) : Int).toNat).length : Int))))) else (some false)) else (none)) else (some false)) else (some false))) = some r := by first | (rw [hy107]; with_reducible exact H) | (have H2_ := (Option.bind_some _ _).symm.trans H; rw [hy107]; with_reducible exact H2_) | (have H2_ := (Option.bind_some _ _).symm.trans H; with_reducible exact H2_) | with_reducible exact H | (rw [hy107]; exact H) | exact H
            have Ny107 := Aside0.mk hy107
            clear hy107
            replace H := Option.bind_eq_some_iff.mp H
            obtain ⟨⟨t110, t111⟩, A140, H⟩ := H
            replace H : (if t101 = true then (if t111 = true then (if 0 ≤ (IntKind.u64.wrap (wrap64 (64 - (wrap64 (8 * (wrap64 (1 + (Go.bits .and .i64 a3 7)))))))) then (if t110 = (shr .i64 (shl .i64 a2 (IntKind.u64.wrap (wrap64 (64 - (wrap64 (8 * (wrap64 (1 + (Go.bits .and .i64 a3 7))))))))) (IntKind.u64.wrap (wrap64 (64 - (wrap64 (8 * (wrap64 (1 + (Go.bits .and .i64 a3 7))))))))) then (some ((y107.length : Int) == (wrap64 ((wrap64 (((l0.take ((ji6) : Int).toNat).length : Int) + (wrap64 (1 + (Go.bits .and .i64 a3 7))))) + ((l1.take ((ji9) : Int).toNat).length : Int))))) else (some false)) else (none)) else (some false)) else (some false)) = some r := H
            have A14 := Aside0.mk A140
            clear A140
            by_cases c15 : t101 = true
            · subst c15
              have H1 : (if t111 = true then (if 0 ≤ (IntKind.u64.wrap (wrap64 (64 - (wrap64 (8 * (wrap64 (1 + (Go.bits .and .i64 a3 7)))))))) then (if t110 = (shr .i64 (shl .i64 a2 (IntKind.u64.wrap (wrap64 (64 - (wrap64 (8 * (wrap64 (1 + (Go.bits .and .i64 a3 7))))))))) (IntKind.u64.wrap (wrap64 (64 - (wrap64 (8 * (wrap64 (1 + (Go.bits .and .i64 a3 7))))))))) then (some ((y107.length : Int) == (wrap64 ((wrap64 (((l0.take ((ji6) : Int).toNat).length : Int) + (wrap64 (1 + (Go.bits .and .i64 a3 7))))) + ((l1.take ((ji9) : Int).toNat).length : Int))))) else (some false)) else (none)) else (some false)) = some r := by rw [if_pos rfl] at H; exact H
              clear H
              have H := H1
              clear H1
              by_cases c16 : t111 = true
              · subst c16
                have H1 : (if 0 ≤ (IntKind.u64.wrap (wrap64 (64 - (wrap64 (8 * (wrap64 (1 + (Go.bits .and .i64 a3 7)))))))) then (if t110 = (shr .i64 (shl .i64 a2 (IntKind.u64.wrap (wrap64 (64 - (wrap64 (8 * (wrap64 (1 + (Go.bits .and .i64 a3 7))))))))) (IntKind.u64.wrap (wrap64 (64 - (wrap64 (8 * (wrap64 (1 + (Go.bits .and .i64 a3 7))))))))) then (some ((y107.length : Int) == (wrap64 ((wrap64 (((l0.take ((ji6) : Int).toNat).length : Int) + (wrap64 (1 + (Go.bits .and .i64 a3 7))))) + ((l1.take ((ji9) : Int).toNat).length : Int))))) else (some false)) else (none)) = some r := by rw [if_pos rfl] at H; exact H
                clear H
                have H := H1
                clear H1
                obtain ⟨ji17, hji17⟩ : ∃ j_ : Int, (IntKind.u64.wrap (wrap64 (64 - (wrap64 (8 * (wrap64 (1 + (Go.bits .and .i64 a3 7)))))))) = j_ := ⟨_, rfl⟩
                replace H : (if 0 ≤ (ji17) then (if t110 = (shr .i64 (shl .i64 a2 (ji17)) (ji17)) then (some ((y107.length : Int) == (wrap64 ((wrap64 (((l0.take ((ji6) : Int).toNat).length : Int) + (wrap64 (1 + (Go.bits .and .i64 a3 7))))) + ((l1.take ((ji9) : Int).toNat).length : Int))))) else (some false)) else (none)) = some r := by first | (rw [hji17] at H; exact H) | (simp only [hji17] at H ⊢; exact H)
                (try rw [hji17] at A5)
                (try rw [hji17] at A12)
                (try rw [hji17] at A14)
                by_cases c18 : 0 ≤ (ji17)
                · rw [if_pos c18] at H
                  have c18b0 := eq_true c18
                  have c18b1 : decide (0 ≤ (ji17)) = true := decide_eq_true c18
                  clear c18
                  obtain ⟨ji19, hji19⟩ : ∃ j_ : Int, (shl .i64 a2 (ji17)) = j_ := ⟨_, rfl⟩
                  replace H : (if t110 = (shr .i64 (ji19) (ji17)) then (some ((y107.length : Int) == (wrap64 ((wrap64 (((l0.take ((ji6) : Int).toNat).length : Int) + (wrap64 (1 + (Go.bits .and .i64 a3 7))))) + ((l1.take ((ji9) : Int).toNat).length : Int))))) else (some false)) = some r := by first | (rw [hji19] at H; exact H) | (simp only [hji19] at H ⊢; exact H)
                  (try rw [hji19] at A5)
                  (try rw [hji19] at A12)
                  (try rw [hji19] at A14)
                  have hji19_ : (IntKind.i64.wrap (a2 * 2 ^ min (ji17).toNat 64)) = ji19 := hji19
                  have hji19z : (ji17) ≤ 64 → (IntKind.i64.wrap (a2 * 2 ^ (ji17).toNat)) = ji19 := shl_small hji19
                  have hji19y : (wrap64 (a2 * 2 ^ min (ji17).toNat 64)) = ji19 := (i64_w _).symm.trans hji19_
                  have hji19x : (ji17) ≤ 64 → (wrap64 (a2 * 2 ^ (ji17).toNat)) = ji19 := fun h_ => (i64_w _).symm.trans (hji19z h_)
                  have c20b0 := eq_true (of_decide_eq_true (by first | (with_reducible assumption) | assumption) : 0 ≤ (ji17))
                  obtain ⟨ji21, hji21⟩ : ∃ j_ : Int, (shr .i64 (ji19) (ji17)) = j_ := ⟨_, rfl⟩
                  replace H : (if t110 = (ji21) then (some ((y107.length : Int) == (wrap64 ((wrap64 (((l0.take ((ji6) : Int).toNat).length : Int) + (wrap64 (1 + (Go.bits .and .i64 a3 7))))) + ((l1.take ((ji9) : Int).toNat).length : Int))))) else (some false)) = some r := by first | (rw [hji21] at H; exact H) | (simp only [hji21] at H ⊢; exact H)
                  (try rw [hji21] at A5)
                  (try rw [hji21] at A12)
                  (try rw [hji21] at A14)
                  have hji21_ : ((ji19) / 2 ^ min (ji17).toNat 64) = ji21 := hji21
                  have hji21z : (ji17) ≤ 64 → ((ji19) / 2 ^ (ji17).toNat) = ji21 := shr_small hji21
                  by_cases c22 : t110 = (ji21)
                  · rw [if_pos c22] at H
                    have c22b0 : (t110 == (ji21)) = true := beq_iff_eq.mpr c22
                    have c22b1 : (t110 != (ji21)) = false := bne_eq_false_iff_eq.mpr c22
                    clear c22
                    obtain rfl := Option.some.inj H
                    have HL6 := Aside0.mk (show ((l0.take ((ji6) : Int).toNat).length : Int) = max ji6 0 by rw [List.length_take]; have h_ := of_decide_eq_true c8b1; omega)
                    go_enter Try.func3, Try.ntmps3
                    go_wp2_with (first | ((with_reducible refine gate_callee (f := 7) rfl ?_); refine goesL_ (some 14) rfl rfl Try.func7 (by kernel_rfl) rfl #[] rfl (by (try simp only [List.map_toArray, List.map_cons, List.map_nil]); first | done | rfl | (simp only [List.length_drop, List.length_take]; rfl)) ?_; (with_reducible refine (longcaselaw04_shown.calls  true _ A5.out).mono ?_); rintro e w23 ⟨rfl, hb⟩; refine ⟨_, rfl, ?_⟩; have n0_ := Aside0.mk (below_step (by repeat (first | (with_reducible first | exact HB.out | apply below_alloc | apply pw_below_drewN | apply below_drew1) | exact HB.out)) hb); clear HB; have HB := n0_; clear n0_; (try clear hb); (try clear hb2); (try clear hk); (try clear hi); obtain ⟨i024, hi024, _, hsz24, _⟩ := info_parts info5; obtain ⟨hcut24, hA24, hC24⟩ := print_take_of (P := Try.prog) (Value.int .u8) 0 22 5 .i64 Try.underlying22 hi024 hsz24 A0 c0 l0 (ji6) (of_decide_eq_true (by first | (with_reducible assumption) | assumption)) (of_decide_eq_true (by first | (with_reducible assumption) | assumption)) HC0.out; have HR102 := Aside0.mk (Kd.C_of_reads (h1 := fun _ => rfl) (hA24 _ (Kd.reads_of_C HR0.out))); have HC102 := Aside0.mk hC24; clear hA24 hC24 hi024 hsz24; obtain ⟨i025, hi025, _, hsz25, _⟩ := info_parts info5; obtain ⟨hcut25, hA25, hC25⟩ := print_take_of (P := Try.prog) (Value.int .u8) 0 22 5 .i64 Try.underlying22 hi025 hsz25 A1 c1 l1 (ji9) (of_decide_eq_true (by first | (with_reducible assumption) | assumption)) (of_decide_eq_true (by first | (with_reducible assumption) | assumption)) HC1.out; have HR103 := Aside0.mk (Kd.C_of_reads (h1 := fun _ => rfl) (hA25 _ (Kd.reads_of_C HR1.out))); have HC103 := Aside0.mk hC25; clear hA25 hC25 hi025 hsz25) | ((with_reducible refine gate_callee (f := 8) rfl ?_); refine goesL_ (some 32) rfl rfl Try.func8 (by kernel_rfl) rfl #[.slice A0 (l0.take ((ji6) : Int).toNat).length c0, .int .i64 (wrap64 (1 + (Go.bits .and .i64 a3 7))), .int .u64 (IntKind.u64.wrap (a2))] rfl (by (try simp only [List.map_toArray, List.map_cons, List.map_nil]); first | done | (rw [show (l0.take ((ji6) : Int).toNat).length = (ji6).toNat from (by rw [List.length_take]; have h_ : ((ji6) : Int) ≤ (l0.length : Int) := of_decide_eq_true (by first | (with_reducible assumption) | assumption); omega)] <;> rfl) | (simp only [hji6]; rfl) | rfl | (rw [HL6.out]; rfl) | (simp only [List.length_drop, List.length_take]; rfl)) ?_; (with_reducible refine (octets_Put.calls k _ _ (l0.take ((ji6) : Int).toNat) (wrap64 (1 + (Go.bits .and .i64 a3 7))) (IntKind.u64.wrap (a2)) t104 _ ?side1 ?side2 A12.out).mono ?_); (case side1 => repeat (first | exact (Kd.C_below HR102.out HB.out) | (with_reducible refine Kd.C_alloc ?_ _) | (with_reducible refine Kd.C_drewN ?_ _) | (with_reducible refine Kd.C_drew ?_))); (case side2 => exact HC102.out); rintro e w26 ⟨v105, rfl, ho0, hb⟩; refine ⟨_, rfl, ?_⟩; have n0_ := Aside0.mk (Kd.R_lower ho0 (below_size (by repeat (first | (with_reducible first | exact HB.out | apply below_alloc | apply pw_below_drewN | apply below_drew1) | exact HB.out)))); have n1_ := Aside0.mk (below_step (by repeat (first | (with_reducible first | exact HB.out | apply below_alloc | apply pw_below_drewN | apply below_drew1) | exact HB.out)) hb); clear HB; have HO106 := n0_; have HB := n1_; clear n0_ n1_; (try clear hb); (try clear hb2); (try clear hk); (try clear hi); (try clear ho0)) | ((with_reducible refine gate_builtin (b := .append) (xs := #[.tmp 32, .tmp 33]) rfl ?_); (try (refine gate_guard (by rfl) ?_; dsimp only)); at_builtin; refine Kd.R_append_rows (Kd.int .u8) (w0 := w) w.heap.size rfl (.tmp 32) (.tmp 33) 22 5 (.int .u8 0) 1 rfl Try.underlying22 info5 rfl (by decide) (by omega) v105 t104 (l1.take ((ji9) : Int).toNat) _ _ _ (fun _ => True) (fun _ => False) rfl rfl ?aO ?aR (fun _ _ h => h) (fun _ h => h.elim) ?aF ?aB ?aS ?aL ?_; (case aR => first | (refine readsLen (show (l1.take ((ji9) : Int).toNat).length = (ji9).toNat from (by rw [List.length_take]; have h_ : ((ji9) : Int) ≤ (l1.length : Int) := of_decide_eq_true (by first | (with_reducible assumption) | assumption); omega)) ?_; repeat (first | exact (Kd.C_below HR103.out HB.out) | (with_reducible refine Kd.C_alloc ?_ _) | (with_reducible refine Kd.C_drewN ?_ _) | (with_reducible refine Kd.C_drew ?_))) | (repeat (first | exact (Kd.C_below HR103.out HB.out) | (with_reducible refine Kd.C_alloc ?_ _) | (with_reducible refine Kd.C_drewN ?_ _) | (with_reducible refine Kd.C_drew ?_)))); (case aB => exact (by repeat (first | (with_reducible first | exact HB.out | apply below_alloc | apply pw_below_drewN | apply below_drew1) | exact HB.out))); (case aF => exact (fun _ _ => trivial)); (case aO => exact (by (with_reducible repeat (first | apply Kd.R_alloc | apply Kd.R_drewN | apply Kd.R_drew)); exact HO106.out)); (case aS => exact (below_size (by repeat (first | (with_reducible first | exact HB.out | apply below_alloc | apply pw_below_drewN | apply below_drew1) | exact HB.out)))); (case aL => have := LMc13.out; have hlx_ := (show (l1.take ((ji9) : Int).toNat).length = (ji9).toNat from (by rw [List.length_take]; have h_ : ((ji9) : Int) ≤ (l1.length : Int) := of_decide_eq_true (by first | (with_reducible assumption) | assumption); omega)); omega); intro v108 w27 ho hb hg hat; rw [← Ny107.out] at ho; have n0_ := Aside0.mk (hb); have n1_ := Aside0.mk (ho); clear HB; clear HO106; have HB := n0_; have HO109 := n1_; clear n0_ n1_; clear ho hb hg hat; obtain ⟨Ao28, co28, eo28⟩ := Kd.R_slice HO109.out; subst eo28) | ((with_reducible refine gate_callee (f := 9) rfl ?_); refine goesL_ (some 40) rfl rfl Try.func9 (by kernel_rfl) rfl #[.slice Ao28 y107.length co28, .int .i64 ((l0.take ((ji6) : Int).toNat).length : Int), .int .i64 (wrap64 (1 + (Go.bits .and .i64 a3 7)))] rfl (by (try simp only [List.map_toArray, List.map_cons, List.map_nil]); first | done | (simp only [hji6]; rfl) | rfl | (rw [HL6.out]; rfl) | (simp only [List.length_drop, List.length_take]; rfl)) ?_; (with_reducible refine (octets_Int.calls _ _ y107 ((l0.take ((ji6) : Int).toNat).length : Int) (wrap64 (1 + (Go.bits .and .i64 a3 7))) t110 true _ ?side1 ?side2 A14.out).mono ?_); (case side1 => repeat (first | exact (Kd.R_reads' HO109.out).2.2 | (with_reducible refine Kd.C_alloc ?_ _) | (with_reducible refine Kd.C_drewN ?_ _) | (with_reducible refine Kd.C_drew ?_))); (case side2 => exact (Kd.R_reads' HO109.out).2.1); rintro e w' ⟨rfl, ⟨nd, rfl⟩⟩; refine ⟨_, rfl, ?_⟩))
                    go_ret
                    exact ⟨by first | rfl | (simp [errW_none, errW_some] <;> rfl) | (simp only [← hji6, ← hji9, ← hji17, ← hji19, ← hji21]; first | rfl | (simp [errW_none, errW_some] <;> rfl)) | (simp [*, errW_none, errW_some] <;> rfl), by repeat (first | (with_reducible first | exact HB.out | apply below_alloc | apply pw_below_drewN | apply below_drew1) | exact HB.out)⟩
                  · rw [if_neg c22] at H
                    have c22b0 : (t110 == (ji21)) = false := beq_eq_false_iff_ne.mpr c22
                    have c22b1 : (t110 != (ji21)) = true := bne_iff_ne.mpr c22
                    obtain rfl := Option.some.inj H
                    have HL6 := Aside0.mk (show ((l0.take ((ji6) : Int).toNat).length : Int) = max ji6 0 by rw [List.length_take]; have h_ := of_decide_eq_true c8b1; omega)
                    go_enter Try.func3, Try.ntmps3
                    go_wp2_with (first | ((with_reducible refine gate_callee (f := 7) rfl ?_); refine goesL_ (some 14) rfl rfl Try.func7 (by kernel_rfl) rfl #[] rfl (by (try simp only [List.map_toArray, List.map_cons, List.map_nil]); first | done | rfl | (simp only [List.length_drop, List.length_take]; rfl)) ?_; (with_reducible refine (longcaselaw04_shown.calls  true _ A5.out).mono ?_); rintro e w29 ⟨rfl, hb⟩; refine ⟨_, rfl, ?_⟩; have n0_ := Aside0.mk (below_step (by repeat (first | (with_reducible first | exact HB.out | apply below_alloc | apply pw_below_drewN | apply below_drew1) | exact HB.out)) hb); clear HB; have HB := n0_; clear n0_; (try clear hb); (try clear hb2); (try clear hk); (try clear hi); obtain ⟨i030, hi030, _, hsz30, _⟩ := info_parts info5; obtain ⟨hcut30, hA30, hC30⟩ := print_take_of (P := Try.prog) (Value.int .u8) 0 22 5 .i64 Try.underlying22 hi030 hsz30 A0 c0 l0 (ji6) (of_decide_eq_true (by first | (with_reducible assumption) | assumption)) (of_decide_eq_true (by first | (with_reducible assumption) | assumption)) HC0.out; have HR102 := Aside0.mk (Kd.C_of_reads (h1 := fun _ => rfl) (hA30 _ (Kd.reads_of_C HR0.out))); have HC102 := Aside0.mk hC30; clear hA30 hC30 hi030 hsz30; obtain ⟨i031, hi031, _, hsz31, _⟩ := info_parts info5; obtain ⟨hcut31, hA31, hC31⟩ := print_take_of (P := Try.prog) (Value.int .u8) 0 22 5 .i64 Try.underlying22 hi031 hsz31 A1 c1 l1 (ji9) (of_decide_eq_true (by first | (with_reducible assumption) | assumption)) (of_decide_eq_true (by first | (with_reducible assumption) | assumption)) HC1.out; have HR103 := Aside0.mk (Kd.C_of_reads (h1 := fun _ => rfl) (hA31 _ (Kd.reads_of_C HR1.out))); have HC103 := Aside0.mk hC31; clear hA31 hC31 hi031 hsz31) | ((with_reducible refine gate_callee (f := 8) rfl ?_); refine goesL_ (some 32) rfl rfl Try.func8 (by kernel_rfl) rfl #[.slice A0 (l0.take ((ji6) : Int).toNat).length c0, .int .i64 (wrap64 (1 + (Go.bits .and .i64 a3 7))), .int .u64 (IntKind.u64.wrap (a2))] rfl (by (try simp only [List.map_toArray, List.map_cons, List.map_nil]); first | done | (rw [show (l0.take ((ji6) : Int).toNat).length = (ji6).toNat from (by rw [List.length_take]; have h_ : ((ji6) : Int) ≤ (l0.length : Int) := of_decide_eq_true (by first | (with_reducible assumption) | assumption); omega)] <;> rfl) | (simp only [hji6]; rfl) | rfl | (rw [HL6.out]; rfl) | (simp only [List.length_drop, List.length_take]; rfl)) ?_; (with_reducible refine (octets_Put.calls k _ _ (l0.take ((ji6) : Int).toNat) (wrap64 (1 + (Go.bits .and .i64 a3 7))) (IntKind.u64.wrap (a2)) t104 _ ?side1 ?side2 A12.out).mono ?_); (case side1 => repeat (first | exact (Kd.C_below HR102.out HB.out) | (with_reducible refine Kd.C_alloc ?_ _) | (with_reducible refine Kd.C_drewN ?_ _) | (with_reducible refine Kd.C_drew ?_))); (case side2 => exact HC102.out); rintro e w32 ⟨v105, rfl, ho0, hb⟩; refine ⟨_, rfl, ?_⟩; have n0_ := Aside0.mk (Kd.R_lower ho0 (below_size (by repeat (first | (with_reducible first | exact HB.out | apply below_alloc | apply pw_below_drewN | apply below_drew1) | exact HB.out)))); have n1_ := Aside0.mk (below_step (by repeat (first | (with_reducible first | exact HB.out | apply below_alloc | apply pw_below_drewN | apply below_drew1) | exact HB.out)) hb); clear HB; have HO106 := n0_; have HB := n1_; clear n0_ n1_; (try clear hb); (try clear hb2); (try clear hk); (try clear hi); (try clear ho0)) | ((with_reducible refine gate_builtin (b := .append) (xs := #[.tmp 32, .tmp 33]) rfl ?_); (try (refine gate_guard (by rfl) ?_; dsimp only)); at_builtin; refine Kd.R_append_rows (Kd.int .u8) (w0 := w) w.heap.size rfl (.tmp 32) (.tmp 33) 22 5 (.int .u8 0) 1 rfl Try.underlying22 info5 rfl (by decide) (by omega) v105 t104 (l1.take ((ji9) : Int).toNat) _ _ _ (fun _ => True) (fun _ => False) rfl rfl ?aO ?aR (fun _ _ h => h) (fun _ h => h.elim) ?aF ?aB ?aS ?aL ?_; (case aR => first | (refine readsLen (show (l1.take ((ji9) : Int).toNat).length = (ji9).toNat from (by rw [List.length_take]; have h_ : ((ji9) : Int) ≤ (l1.length : Int) := of_decide_eq_true (by first | (with_reducible assumption) | assumption); omega)) ?_; repeat (first | exact (Kd.C_below HR103.out HB.out) | (with_reducible refine Kd.C_alloc ?_ _) | (with_reducible refine Kd.C_drewN ?_ _) | (with_reducible refine Kd.C_drew ?_))) | (repeat (first | exact (Kd.C_below HR103.out HB.out) | (with_reducible refine Kd.C_alloc ?_ _) | (with_reducible refine Kd.C_drewN ?_ _) | (with_reducible refine Kd.C_drew ?_)))); (case aB => exact (by repeat (first | (with_reducible first | exact HB.out | apply below_alloc | apply pw_below_drewN | apply below_drew1) | exact HB.out))); (case aF => exact (fun _ _ => trivial)); (case aO => exact (by (with_reducible repeat (first | apply Kd.R_alloc | apply Kd.R_drewN | apply Kd.R_drew)); exact HO106.out)); (case aS => exact (below_size (by repeat (first | (with_reducible first | exact HB.out | apply below_alloc | apply pw_below_drewN | apply below_drew1) | exact HB.out)))); (case aL => have := LMc13.out; have hlx_ := (show (l1.take ((ji9) : Int).toNat).length = (ji9).toNat from (by rw [List.length_take]; have h_ : ((ji9) : Int) ≤ (l1.length : Int) := of_decide_eq_true (by first | (with_reducible assumption) | assumption); omega)); omega); intro v108 w33 ho hb hg hat; rw [← Ny107.out] at ho; have n0_ := Aside0.mk (hb); have n1_ := Aside0.mk (ho); clear HB; clear HO106; have HB := n0_; have HO109 := n1_; clear n0_ n1_; clear ho hb hg hat; obtain ⟨Ao34, co34, eo34⟩ := Kd.R_slice HO109.out; subst eo34) | ((with_reducible refine gate_callee (f := 9) rfl ?_); refine goesL_ (some 40) rfl rfl Try.func9 (by kernel_rfl) rfl #[.slice Ao34 y107.length co34, .int .i64 ((l0.take ((ji6) : Int).toNat).length : Int), .int .i64 (wrap64 (1 + (Go.bits .and .i64 a3 7)))] rfl (by (try simp only [List.map_toArray, List.map_cons, List.map_nil]); first | done | (simp only [hji6]; rfl) | rfl | (rw [HL6.out]; rfl) | (simp only [List.length_drop, List.length_take]; rfl)) ?_; (with_reducible refine (octets_Int.calls _ _ y107 ((l0.take ((ji6) : Int).toNat).length : Int) (wrap64 (1 + (Go.bits .and .i64 a3 7))) t110 true _ ?side1 ?side2 A14.out).mono ?_); (case side1 => repeat (first | exact (Kd.R_reads' HO109.out).2.2 | (with_reducible refine Kd.C_alloc ?_ _) | (with_reducible refine Kd.C_drewN ?_ _) | (with_reducible refine Kd.C_drew ?_))); (case side2 => exact (Kd.R_reads' HO109.out).2.1); rintro e w' ⟨rfl, ⟨nd, rfl⟩⟩; refine ⟨_, rfl, ?_⟩))
                    go_ret
                    exact ⟨by first | rfl | (simp [errW_none, errW_some] <;> rfl) | (simp only [← hji6, ← hji9, ← hji17, ← hji19, ← hji21]; first | rfl | (simp [errW_none, errW_some] <;> rfl)) | (simp [*, errW_none, errW_some] <;> rfl), by repeat (first | (with_reducible first | exact HB.out | apply below_alloc | apply pw_below_drewN | apply below_drew1) | exact HB.out)⟩
                · rw [if_neg c18] at H
                  exact absurd H (by simp)
              · replace c16 := Bool.eq_false_iff.mpr c16
                subst c16
                have H1 : (some false) = some r := by rw [if_neg (show ¬ (false = true) by decide)] at H; exact H
                clear H
                have H := H1
                clear H1
                obtain rfl := Option.some.inj H
                have HL6 := Aside0.mk (show ((l0.take ((ji6) : Int).toNat).length : Int) = max ji6 0 by rw [List.length_take]; have h_ := of_decide_eq_true c8b1; omega)
                go_enter Try.func3, Try.ntmps3
                go_wp2_with (first | ((with_reducible refine gate_callee (f := 7) rfl ?_); refine goesL_ (some 14) rfl rfl Try.func7 (by kernel_rfl) rfl #[] rfl (by (try simp only [List.map_toArray, List.map_cons, List.map_nil]); first | done | rfl | (simp only [List.length_drop, List.length_take]; rfl)) ?_; (with_reducible refine (longcaselaw04_shown.calls  true _ A5.out).mono ?_); rintro e w35 ⟨rfl, hb⟩; refine ⟨_, rfl, ?_⟩; have n0_ := Aside0.mk (below_step (by repeat (first | (with_reducible first | exact HB.out | apply below_alloc | apply pw_below_drewN | apply below_drew1) | exact HB.out)) hb); clear HB; have HB := n0_; clear n0_; (try clear hb); (try clear hb2); (try clear hk); (try clear hi); obtain ⟨i036, hi036, _, hsz36, _⟩ := info_parts info5; obtain ⟨hcut36, hA36, hC36⟩ := print_take_of (P := Try.prog) (Value.int .u8) 0 22 5 .i64 Try.underlying22 hi036 hsz36 A0 c0 l0 (ji6) (of_decide_eq_true (by first | (with_reducible assumption) | assumption)) (of_decide_eq_true (by first | (with_reducible assumption) | assumption)) HC0.out; have HR102 := Aside0.mk (Kd.C_of_reads (h1 := fun _ => rfl) (hA36 _ (Kd.reads_of_C HR0.out))); have HC102 := Aside0.mk hC36; clear hA36 hC36 hi036 hsz36; obtain ⟨i037, hi037, _, hsz37, _⟩ := info_parts info5; obtain ⟨hcut37, hA37, hC37⟩ := print_take_of (P := Try.prog) (Value.int .u8) 0 22 5 .i64 Try.underlying22 hi037 hsz37 A1 c1 l1 (ji9) (of_decide_eq_true (by first | (with_reducible assumption) | assumption)) (of_decide_eq_true (by first | (with_reducible assumption) | assumption)) HC1.out; have HR103 := Aside0.mk (Kd.C_of_reads (h1 := fun _ => rfl) (hA37 _ (Kd.reads_of_C HR1.out))); have HC103 := Aside0.mk hC37; clear hA37 hC37 hi037 hsz37) | ((with_reducible refine gate_callee (f := 8) rfl ?_); refine goesL_ (some 32) rfl rfl Try.func8 (by kernel_rfl) rfl #[.slice A0 (l0.take ((ji6) : Int).toNat).length c0, .int .i64 (wrap64 (1 + (Go.bits .and .i64 a3 7))), .int .u64 (IntKind.u64.wrap (a2))] rfl (by (try simp only [List.map_toArray, List.map_cons, List.map_nil]); first | done | (rw [show (l0.take ((ji6) : Int).toNat).length = (ji6).toNat from (by rw [List.length_take]; have h_ : ((ji6) : Int) ≤ (l0.length : Int) := of_decide_eq_true (by first | (with_reducible assumption) | assumption); omega)] <;> rfl) | (simp only [hji6]; rfl) | rfl | (rw [HL6.out]; rfl) | (simp only [List.length_drop, List.length_take]; rfl)) ?_; (with_reducible refine (octets_Put.calls k _ _ (l0.take ((ji6) : Int).toNat) (wrap64 (1 + (Go.bits .and .i64 a3 7))) (IntKind.u64.wrap (a2)) t104 _ ?side1 ?side2 A12.out).mono ?_); (case side1 => repeat (first | exact (Kd.C_below HR102.out HB.out) | (with_reducible refine Kd.C_alloc ?_ _) | (with_reducible refine Kd.C_drewN ?_ _) | (with_reducible refine Kd.C_drew ?_))); (case side2 => exact HC102.out); rintro e w38 ⟨v105, rfl, ho0, hb⟩; refine ⟨_, rfl, ?_⟩; have n0_ := Aside0.mk (Kd.R_lower ho0 (below_size (by repeat (first | (with_reducible first | exact HB.out | apply below_alloc | apply pw_below_drewN | apply below_drew1) | exact HB.out)))); have n1_ := Aside0.mk (below_step (by repeat (first | (with_reducible first | exact HB.out | apply below_alloc | apply pw_below_drewN | apply below_drew1) | exact HB.out)) hb); clear HB; have HO106 := n0_; have HB := n1_; clear n0_ n1_; (try clear hb); (try clear hb2); (try clear hk); (try clear hi); (try clear ho0)) | ((with_reducible refine gate_builtin (b := .append) (xs := #[.tmp 32, .tmp 33]) rfl ?_); (try (refine gate_guard (by rfl) ?_; dsimp only)); at_builtin; refine Kd.R_append_rows (Kd.int .u8) (w0 := w) w.heap.size rfl (.tmp 32) (.tmp 33) 22 5 (.int .u8 0) 1 rfl Try.underlying22 info5 rfl (by decide) (by omega) v105 t104 (l1.take ((ji9) : Int).toNat) _ _ _ (fun _ => True) (fun _ => False) rfl rfl ?aO ?aR (fun _ _ h => h) (fun _ h => h.elim) ?aF ?aB ?aS ?aL ?_; (case aR => first | (refine readsLen (show (l1.take ((ji9) : Int).toNat).length = (ji9).toNat from (by rw [List.length_take]; have h_ : ((ji9) : Int) ≤ (l1.length : Int) := of_decide_eq_true (by first | (with_reducible assumption) | assumption); omega)) ?_; repeat (first | exact (Kd.C_below HR103.out HB.out) | (with_reducible refine Kd.C_alloc ?_ _) | (with_reducible refine Kd.C_drewN ?_ _) | (with_reducible refine Kd.C_drew ?_))) | (repeat (first | exact (Kd.C_below HR103.out HB.out) | (with_reducible refine Kd.C_alloc ?_ _) | (with_reducible refine Kd.C_drewN ?_ _) | (with_reducible refine Kd.C_drew ?_)))); (case aB => exact (by repeat (first | (with_reducible first | exact HB.out | apply below_alloc | apply pw_below_drewN | apply below_drew1) | exact HB.out))); (case aF => exact (fun _ _ => trivial)); (case aO => exact (by (with_reducible repeat (first | apply Kd.R_alloc | apply Kd.R_drewN | apply Kd.R_drew)); exact HO106.out)); (case aS => exact (below_size (by repeat (first | (with_reducible first | exact HB.out | apply below_alloc | apply pw_below_drewN | apply below_drew1) | exact HB.out)))); (case aL => have := LMc13.out; have hlx_ := (show (l1.take ((ji9) : Int).toNat).length = (ji9).toNat from (by rw [List.length_take]; have h_ : ((ji9) : Int) ≤ (l1.length : Int) := of_decide_eq_true (by first | (with_reducible assumption) | assumption); omega)); omega); intro v108 w39 ho hb hg hat; rw [← Ny107.out] at ho; have n0_ := Aside0.mk (hb); have n1_ := Aside0.mk (ho); clear HB; clear HO106; have HB := n0_; have HO109 := n1_; clear n0_ n1_; clear ho hb hg hat; obtain ⟨Ao40, co40, eo40⟩ := Kd.R_slice HO109.out; subst eo40) | ((with_reducible refine gate_callee (f := 9) rfl ?_); refine goesL_ (some 40) rfl rfl Try.func9 (by kernel_rfl) rfl #[.slice Ao40 y107.length co40, .int .i64 ((l0.take ((ji6) : Int).toNat).length : Int), .int .i64 (wrap64 (1 + (Go.bits .and .i64 a3 7)))] rfl (by (try simp only [List.map_toArray, List.map_cons, List.map_nil]); first | done | (simp only [hji6]; rfl) | rfl | (rw [HL6.out]; rfl) | (simp only [List.length_drop, List.length_take]; rfl)) ?_; (with_reducible refine (octets_Int.calls _ _ y107 ((l0.take ((ji6) : Int).toNat).length : Int) (wrap64 (1 + (Go.bits .and .i64 a3 7))) t110 false _ ?side1 ?side2 A14.out).mono ?_); (case side1 => repeat (first | exact (Kd.R_reads' HO109.out).2.2 | (with_reducible refine Kd.C_alloc ?_ _) | (with_reducible refine Kd.C_drewN ?_ _) | (with_reducible refine Kd.C_drew ?_))); (case side2 => exact (Kd.R_reads' HO109.out).2.1); rintro e w' ⟨rfl, ⟨nd, rfl⟩⟩; refine ⟨_, rfl, ?_⟩))
                go_ret
                exact ⟨by first | rfl | (simp [errW_none, errW_some] <;> rfl) | (simp only [← hji6, ← hji9]; first | rfl | (simp [errW_none, errW_some] <;> rfl)) | (simp [*, errW_none, errW_some] <;> rfl), by repeat (first | (with_reducible first | exact HB.out | apply below_alloc | apply pw_below_drewN | apply below_drew1) | exact HB.out)⟩
            · replace c15 := Bool.eq_false_iff.mpr c15
              subst c15
              have H1 : (some false) = some r := by rw [if_neg (show ¬ (false = true) by decide)] at H; exact H
              clear H
              have H := H1
              clear H1
              obtain rfl := Option.some.inj H
              have HL6 := Aside0.mk (show ((l0.take ((ji6) : Int).toNat).length : Int) = max ji6 0 by rw [List.length_take]; have h_ := of_decide_eq_true c8b1; omega)
              go_enter Try.func3, Try.ntmps3
              go_wp2_with (first | ((with_reducible refine gate_callee (f := 7) rfl ?_); refine goesL_ (some 14) rfl rfl Try.func7 (by kernel_rfl) rfl #[] rfl (by (try simp only [List.map_toArray, List.map_cons, List.map_nil]); first | done | rfl | (simp only [List.length_drop, List.length_take]; rfl)) ?_; (with_reducible refine (longcaselaw04_shown.calls  false _ A5.out).mono ?_); rintro e w41 ⟨rfl, hb⟩; refine ⟨_, rfl, ?_⟩; have n0_ := Aside0.mk (below_step (by repeat (first | (with_reducible first | exact HB.out | apply below_alloc | apply pw_below_drewN | apply below_drew1) | exact HB.out)) hb); clear HB; have HB := n0_; clear n0_; (try clear hb); (try clear hb2); (try clear hk); (try clear hi); obtain ⟨i042, hi042, _, hsz42, _⟩ := info_parts info5; obtain ⟨hcut42, hA42, hC42⟩ := print_take_of (P := Try.prog) (Value.int .u8) 0 22 5 .i64 Try.underlying22 hi042 hsz42 A0 c0 l0 (ji6) (of_decide_eq_true (by first | (with_reducible assumption) | assumption)) (of_decide_eq_true (by first | (with_reducible assumption) | assumption)) HC0.out; have HR102 := Aside0.mk (Kd.C_of_reads (h1 := fun _ => rfl) (hA42 _ (Kd.reads_of_C HR0.out))); have HC102 := Aside0.mk hC42; clear hA42 hC42 hi042 hsz42; obtain ⟨i043, hi043, _, hsz43, _⟩ := info_parts info5; obtain ⟨hcut43, hA43, hC43⟩ := print_take_of (P := Try.prog) (Value.int .u8) 0 22 5 .i64 Try.underlying22 hi043 hsz43 A1 c1 l1 (ji9) (of_decide_eq_true (by first | (with_reducible assumption) | assumption)) (of_decide_eq_true (by first | (with_reducible assumption) | assumption)) HC1.out; have HR103 := Aside0.mk (Kd.C_of_reads (h1 := fun _ => rfl) (hA43 _ (Kd.reads_of_C HR1.out))); have HC103 := Aside0.mk hC43; clear hA43 hC43 hi043 hsz43) | ((with_reducible refine gate_callee (f := 8) rfl ?_); refine goesL_ (some 32) rfl rfl Try.func8 (by kernel_rfl) rfl #[.slice A0 (l0.take ((ji6) : Int).toNat).length c0, .int .i64 (wrap64 (1 + (Go.bits .and .i64 a3 7))), .int .u64 (IntKind.u64.wrap (a2))] rfl (by (try simp only [List.map_toArray, List.map_cons, List.map_nil]); first | done | (rw [show (l0.take ((ji6) : Int).toNat).length = (ji6).toNat from (by rw [List.length_take]; have h_ : ((ji6) : Int) ≤ (l0.length : Int) := of_decide_eq_true (by first | (with_reducible assumption) | assumption); omega)] <;> rfl) | (simp only [hji6]; rfl) | rfl | (rw [HL6.out]; rfl) | (simp only [List.length_drop, List.length_take]; rfl)) ?_; (with_reducible refine (octets_Put.calls k _ _ (l0.take ((ji6) : Int).toNat) (wrap64 (1 + (Go.bits .and .i64 a3 7))) (IntKind.u64.wrap (a2)) t104 _ ?side1 ?side2 A12.out).mono ?_); (case side1 => repeat (first | exact (Kd.C_below HR102.out HB.out) | (with_reducible refine Kd.C_alloc ?_ _) | (with_reducible refine Kd.C_drewN ?_ _) | (with_reducible refine Kd.C_drew ?_))); (case side2 => exact HC102.out); rintro e w44 ⟨v105, rfl, ho0, hb⟩; refine ⟨_, rfl, ?_⟩; have n0_ := Aside0.mk (Kd.R_lower ho0 (below_size (by repeat (first | (with_reducible first | exact HB.out | apply below_alloc | apply pw_below_drewN | apply below_drew1) | exact HB.out)))); have n1_ := Aside0.mk (below_step (by repeat (first | (with_reducible first | exact HB.out | apply below_alloc | apply pw_below_drewN | apply below_drew1) | exact HB.out)) hb); clear HB; have HO106 := n0_; have HB := n1_; clear n0_ n1_; (try clear hb); (try clear hb2); (try clear hk); (try clear hi); (try clear ho0)) | ((with_reducible refine gate_builtin (b := .append) (xs := #[.tmp 32, .tmp 33]) rfl ?_); (try (refine gate_guard (by rfl) ?_; dsimp only)); at_builtin; refine Kd.R_append_rows (Kd.int .u8) (w0 := w) w.heap.size rfl (.tmp 32) (.tmp 33) 22 5 (.int .u8 0) 1 rfl Try.underlying22 info5 rfl (by decide) (by omega) v105 t104 (l1.take ((ji9) : Int).toNat) _ _ _ (fun _ => True) (fun _ => False) rfl rfl ?aO ?aR (fun _ _ h => h) (fun _ h => h.elim) ?aF ?aB ?aS ?aL ?_; (case aR => first | (refine readsLen (show (l1.take ((ji9) : Int).toNat).length = (ji9).toNat from (by rw [List.length_take]; have h_ : ((ji9) : Int) ≤ (l1.length : Int) := of_decide_eq_true (by first | (with_reducible assumption) | assumption); omega)) ?_; repeat (first | exact (Kd.C_below HR103.out HB.out) | (with_reducible refine Kd.C_alloc ?_ _) | (with_reducible refine Kd.C_drewN ?_ _) | (with_reducible refine Kd.C_drew ?_))) | (repeat (first | exact (Kd.C_below HR103.out HB.out) | (with_reducible refine Kd.C_alloc ?_ _) | (with_reducible refine Kd.C_drewN ?_ _) | (with_reducible refine Kd.C_drew ?_)))); (case aB => exact (by repeat (first | (with_reducible first | exact HB.out | apply below_alloc | apply pw_below_drewN | apply below_drew1) | exact HB.out))); (case aF => exact (fun _ _ => trivial)); (case aO => exact (by (with_reducible repeat (first | apply Kd.R_alloc | apply Kd.R_drewN | apply Kd.R_drew)); exact HO106.out)); (case aS => exact (below_size (by repeat (first | (with_reducible first | exact HB.out | apply below_alloc | apply pw_below_drewN | apply below_drew1) | exact HB.out)))); (case aL => have := LMc13.out; have hlx_ := (show (l1.take ((ji9) : Int).toNat).length = (ji9).toNat from (by rw [List.length_take]; have h_ : ((ji9) : Int) ≤ (l1.length : Int) := of_decide_eq_true (by first | (with_reducible assumption) | assumption); omega)); omega); intro v108 w45 ho hb hg hat; rw [← Ny107.out] at ho; have n0_ := Aside0.mk (hb); have n1_ := Aside0.mk (ho); clear HB; clear HO106; have HB := n0_; have HO109 := n1_; clear n0_ n1_; clear ho hb hg hat; obtain ⟨Ao46, co46, eo46⟩ := Kd.R_slice HO109.out; subst eo46) | ((with_reducible refine gate_callee (f := 9) rfl ?_); refine goesL_ (some 40) rfl rfl Try.func9 (by kernel_rfl) rfl #[.slice Ao46 y107.length co46, .int .i64 ((l0.take ((ji6) : Int).toNat).length : Int), .int .i64 (wrap64 (1 + (Go.bits .and .i64 a3 7)))] rfl (by (try simp only [List.map_toArray, List.map_cons, List.map_nil]); first | done | (simp only [hji6]; rfl) | rfl | (rw [HL6.out]; rfl) | (simp only [List.length_drop, List.length_take]; rfl)) ?_; (with_reducible refine (octets_Int.calls _ _ y107 ((l0.take ((ji6) : Int).toNat).length : Int) (wrap64 (1 + (Go.bits .and .i64 a3 7))) t110 t111 _ ?side1 ?side2 A14.out).mono ?_); (case side1 => repeat (first | exact (Kd.R_reads' HO109.out).2.2 | (with_reducible refine Kd.C_alloc ?_ _) | (with_reducible refine Kd.C_drewN ?_ _) | (with_reducible refine Kd.C_drew ?_))); (case side2 => exact (Kd.R_reads' HO109.out).2.1); rintro e w' ⟨rfl, ⟨nd, rfl⟩⟩; refine ⟨_, rfl, ?_⟩))
              go_ret
              exact ⟨by first | rfl | (simp [errW_none, errW_some] <;> rfl) | (simp only [← hji6, ← hji9]; first | rfl | (simp [errW_none, errW_some] <;> rfl)) | (simp [*, errW_none, errW_some] <;> rfl), by repeat (first | (with_reducible first | exact HB.out | apply below_alloc | apply pw_below_drewN | apply below_drew1) | exact HB.out)⟩
          · rw [if_neg c13] at H
            exact absurd H (by simp)
        · rw [if_neg c11] at H
          exact absurd H (by simp)
      · rw [if_neg c10] at H
        exact absurd H (by simp)
    · rw [if_neg c8] at H
      exact absurd H (by simp)
  · rw [if_neg c7] at H
    exact absurd H (by simp)

/-- THE ONE PURE STATEMENT of longcaselaw04_OctetsBack: yours. -/
def longcaselaw04_OctetsBack.Pure : Prop := ∀ (l0 : List Int) (l1 : List Int) (a2 : Int) (a3 : Int), l0.length ≤ maxLen → l0.length * 1 ≤ 140737488351232 → (∀ x ∈ l0, (Lit.int .u8 x).wf = true) → l1.length ≤ maxLen → l1.length * 1 ≤ 140737488351232 → (∀ x ∈ l1, (Lit.int .u8 x).wf = true) → (Lit.int .i64 a2).wf = true → (Lit.int .i64 a3).wf = true → ∃ k, longcaselaw04_OctetsBack.f k l0 l1 a2 a3 = some true
theorem longcaselaw04_OctetsBack.walk (P : longcaselaw04_OctetsBack.Pure) (a0 : Option Addr) (len0 cap0 : Nat) (z0 : List Int) (a1 : Option Addr) (len1 cap1 : Nat) (z1 : List Int) (a2 : Int) (a3 : Int) (w : World) (w0 : (a0 = none ∧ len0 = 0 ∧ cap0 = 0 ∧ z0 = []) ∨ ∃ x, a0 = some x ∧ len0 ≤ cap0 ∧ cap0 ≤ maxLen ∧ z0.length = cap0 ∧ (∀ i, i < z0.length → w.cell? (x.add i) = some (.int .u8 (z0.getD i 0))) ∧ ∀ n ∈ z0, (Lit.int .u8 n).wf = true) (y0 : len0 * 1 ≤ 140737488351232) (w1 : (a1 = none ∧ len1 = 0 ∧ cap1 = 0 ∧ z1 = []) ∨ ∃ x, a1 = some x ∧ len1 ≤ cap1 ∧ cap1 ≤ maxLen ∧ z1.length = cap1 ∧ (∀ i, i < z1.length → w.cell? (x.add i) = some (.int .u8 (z1.getD i 0))) ∧ ∀ n ∈ z1, (Lit.int .u8 n).wf = true) (y1 : len1 * 1 ≤ 140737488351232) (w2 : (Lit.int .i64 a2).wf = true) (w3 : (Lit.int .i64 a3).wf = true) :
    Calls Try.prog 3 #[.slice a0 len0 cap0, .slice a1 len1 cap1, .int .i64 a2, .int .i64 a3] w fun e w' => e = .returned (.bool true) ∧ Below w.heap.size w w' := by
  obtain ⟨l0, rfl, hr0, hm0, hw0, hc0⟩ := ReadsInt.ofRowC w0
  obtain ⟨l1, rfl, hr1, hm1, hw1, hc1⟩ := ReadsInt.ofRowC w1
  obtain ⟨k, h⟩ := P l0 l1 a2 a3 hm0 y0 hw0 hm1 y1 hw1 w2 w3
  refine (longcaselaw04_OctetsBack.calls k _ _ l0 _ _ l1 a2 a3 true w (Kd.C_of_reads (d := (0 : Int)) (h1 := fun _ => rfl) hr0) hc0 (Kd.C_of_reads (d := (0 : Int)) (h1 := fun _ => rfl) hr1) hc1 h).mono ?_
  rintro e w' ⟨rfl, hd⟩
  exact ⟨rfl, hd⟩

-- BY HAND: function 11 (octets_Uint)

/-! ### longcaselaw04_OctetsSigns: function 5 -/
def longcaselaw04_OctetsSigns.j0 : Nat → List Int → Bool → Int → Int → Int → Bool → Option (Bool)
  | 0, _, _, _, _, _, _ => none
  | k + 1, x0, x3, x4, x5, x7, x43 => if x43 = true then (some false) else (if x4 = 8 then (if x3 = true then (some (x5 == (IntKind.u64.wrap (x7)))) else (some false)) else (if 0 ≤ (IntKind.u64.wrap (wrap64 (8 * x4))) then (if 0 < (x0.length : Int) then (if (rd x0 0) > 127 then (if x3 = true then (some ((wrap64 (x5)) == (wrap64 (x7 + (shl .i64 1 (IntKind.u64.wrap (wrap64 (8 * x4)))))))) else (some false)) else (if x3 = true then (some ((wrap64 (x5)) == x7)) else (some false))) else (none)) else (none)))
def longcaselaw04_OctetsSigns.f (k : Nat) (l0 : List Int) : Option (Bool) := (longcaselaw04_shown.f).bind fun t112 => (if (mn (l0.length : Int) 8) = 0 then (some t112) else ((octets_Uint.f l0 0 (mn (l0.length : Int) 8)).bind fun bt113 => ((octets_Int.f l0 0 (mn (l0.length : Int) 8)).bind fun bt115 => (if bt113.2 = true then (if bt115.2 = true then (if 0 < (l0.length : Int) then (longcaselaw04_OctetsSigns.j0 k l0 t112 (mn (l0.length : Int) 8) bt113.1 bt115.1 ((decide ((rd l0 0) > 127)) != (decide (bt115.1 < 0)))) else (none)) else (longcaselaw04_OctetsSigns.j0 k l0 t112 (mn (l0.length : Int) 8) bt113.1 bt115.1 true)) else (longcaselaw04_OctetsSigns.j0 k l0 t112 (mn (l0.length : Int) 8) bt113.1 bt115.1 true)))))
theorem longcaselaw04_OctetsSigns.mono_l : ∀ k, (∀ y0 y1 y2 y3 y4 y5, LeO (longcaselaw04_OctetsSigns.j0 k y0 y1 y2 y3 y4 y5) (longcaselaw04_OctetsSigns.j0 (k + 1) y0 y1 y2 y3 y4 y5))
  | 0 => fun _ _ _ _ _ _ r h => by simp [longcaselaw04_OctetsSigns.j0] at h
  | k + 1 => by
    have ih0 := longcaselaw04_OctetsSigns.mono_l k
    · intro y0 y1 y2 y3 y4 y5
      unfold longcaselaw04_OctetsSigns.j0
      repeat' first
      | (with_reducible exact ih0 _ _ _ _ _ _)
      | (with_reducible exact LeO.refl _)
      | (with_reducible exact LeO.none _)
      | (with_reducible refine LeO.ite ?_ ?_)
      | (with_reducible refine LeO.bind ?_ (fun _ => ?_))
      | exact ih0 _ _ _ _ _ _
      | exact LeO.none _
      | refine LeO.ite ?_ ?_
      | refine LeO.bind ?_ (fun _ => ?_)
theorem longcaselaw04_OctetsSigns.mono : ∀ a0 k, LeO (longcaselaw04_OctetsSigns.f k a0) (longcaselaw04_OctetsSigns.f (k + 1) a0) := by
  intro a0 k
  have ih0 := longcaselaw04_OctetsSigns.mono_l k
  unfold longcaselaw04_OctetsSigns.f
  repeat' first
      | (with_reducible exact ih0 _ _ _ _ _ _)
      | (with_reducible exact LeO.refl _)
      | (with_reducible exact LeO.none _)
      | (with_reducible refine LeO.ite ?_ ?_)
      | (with_reducible refine LeO.bind ?_ (fun _ => ?_))
      | exact ih0 _ _ _ _ _ _
      | exact LeO.none _
      | refine LeO.ite ?_ ?_
      | refine LeO.bind ?_ (fun _ => ?_)
set_option maxHeartbeats 8000000 in
set_option maxRecDepth 100000 in
theorem longcaselaw04_OctetsSigns.calls (k : Nat) (A0 : Option Addr) (c0 : Nat) (l0 : List Int) (r : Bool) (w : World) (hr0 : Kd.C (Kd.int .u8) w A0 l0.length l0) (hc0 : l0.length ≤ c0) (h : longcaselaw04_OctetsSigns.f k l0 = some r) :
    Calls Try.prog 5 #[.slice A0 l0.length c0] w fun e w' => e = .returned (.bool r) ∧ Below w.heap.size w w' := by
  have HR0 := Aside0.mk hr0
  have HC0 := Aside0.mk hc0
  clear hr0 hc0
  have HB := Aside0.mk (Below.refl w.heap.size w)
  have H : ((longcaselaw04_shown.f).bind fun t112 => (if (mn (l0.length : Int) 8) = 0 then (some t112) else ((octets_Uint.f l0 0 (mn (l0.length : Int) 8)).bind fun bt113 => ((octets_Int.f l0 0 (mn (l0.length : Int) 8)).bind fun bt115 => (if bt113.2 = true then (if bt115.2 = true then (if 0 < (l0.length : Int) then (longcaselaw04_OctetsSigns.j0 k l0 t112 (mn (l0.length : Int) 8) bt113.1 bt115.1 ((decide ((rd l0 0) > 127)) != (decide (bt115.1 < 0)))) else (none)) else (longcaselaw04_OctetsSigns.j0 k l0 t112 (mn (l0.length : Int) 8) bt113.1 bt115.1 true)) else (longcaselaw04_OctetsSigns.j0 k l0 t112 (mn (l0.length : Int) 8) bt113.1 bt115.1 true)))))) = some r := h
  clear h
  replace H := Option.bind_eq_some_iff.mp H
  obtain ⟨t112, A20, H⟩ := H
  replace H : (if (mn (l0.length : Int) 8) = 0 then (some t112) else ((octets_Uint.f l0 0 (mn (l0.length : Int) 8)).bind fun bt113 => ((octets_Int.f l0 0 (mn (l0.length : Int) 8)).bind fun bt115 => (if bt113.2 = true then (if bt115.2 = true then (if 0 < (l0.length : Int) then (longcaselaw04_OctetsSigns.j0 k l0 t112 (mn (l0.length : Int) 8) bt113.1 bt115.1 ((decide ((rd l0 0) > 127)) != (decide (bt115.1 < 0)))) else (none)) else (longcaselaw04_OctetsSigns.j0 k l0 t112 (mn (l0.length : Int) 8) bt113.1 bt115.1 true)) else (longcaselaw04_OctetsSigns.j0 k l0 t112 (mn (l0.length : Int) 8) bt113.1 bt115.1 true))))) = some r := H
  have A2 := Aside0.mk A20
  clear A20
  obtain ⟨ji3, hji3⟩ : ∃ j_ : Int, (mn (l0.length : Int) 8) = j_ := ⟨_, rfl⟩
  replace H : (if (ji3) = 0 then (some t112) else ((octets_Uint.f l0 0 (ji3)).bind fun bt113 => ((octets_Int.f l0 0 (ji3)).bind fun bt115 => (if bt113.2 = true then (if bt115.2 = true then (if 0 < (l0.length : Int) then (longcaselaw04_OctetsSigns.j0 k l0 t112 ji3 bt113.1 bt115.1 ((decide ((rd l0 0) > 127)) != (decide (bt115.1 < 0)))) else (none)) else (longcaselaw04_OctetsSigns.j0 k l0 t112 ji3 bt113.1 bt115.1 true)) else (longcaselaw04_OctetsSigns.j0 k l0 t112 ji3 bt113.1 bt115.1 true))))) = some r := by first | (rw [hji3] at H; exact H) | (simp only [hji3] at H ⊢; exact H)
  (try rw [hji3] at A2)
  (try (have hji3h : ji3 ≤ 8 := by (rw [← hji3]; unfold mn; (repeat' split) <;> omega)))
  (try (have hji3g : ji3 ≤ 64 := by omega))
  (try (have hji3l : 0 ≤ ji3 := by (rw [← hji3]; unfold mn; (repeat' split) <;> omega)))
  (try (have hji3m : 0 ≤ ji3 := by omega))
  have hji3_ : (if 8 < (l0.length : Int) then 8 else (l0.length : Int)) = ji3 := hji3
  by_cases c4 : (ji3) = 0
  · rw [if_pos c4] at H
    have c4b0 : ((ji3) == 0) = true := beq_iff_eq.mpr c4
    have c4b1 : ((ji3) != 0) = false := bne_eq_false_iff_eq.mpr c4
    clear c4
    obtain rfl := Option.some.inj H
    go_enter Try.func5, Try.ntmps5
    go_wp2_with (first | ((with_reducible refine gate_callee (f := 7) rfl ?_); refine goesL_ (some 10) rfl rfl Try.func7 (by kernel_rfl) rfl #[] rfl (by (try simp only [List.map_toArray, List.map_cons, List.map_nil]); first | done | rfl | (simp only [List.length_drop, List.length_take]; rfl)) ?_; (with_reducible refine (longcaselaw04_shown.calls  t112 _ A2.out).mono ?_); rintro e w5 ⟨rfl, hb⟩; refine ⟨_, rfl, ?_⟩; have n0_ := Aside0.mk (below_step (by repeat (first | (with_reducible first | exact HB.out | apply below_alloc | apply pw_below_drewN | apply below_drew1) | exact HB.out)) hb); clear HB; have HB := n0_; clear n0_; (try clear hb); (try clear hb2); (try clear hk); (try clear hi)))
    go_ret
    exact ⟨by first | rfl | (simp [errW_none, errW_some] <;> rfl) | (simp only [← hji3]; first | rfl | (simp [errW_none, errW_some] <;> rfl)) | (simp [*, errW_none, errW_some] <;> rfl), by repeat (first | (with_reducible first | exact HB.out | apply below_alloc | apply pw_below_drewN | apply below_drew1) | exact HB.out)⟩
  · rw [if_neg c4] at H
    have c4b0 : ((ji3) == 0) = false := beq_eq_false_iff_ne.mpr c4
    have c4b1 : ((ji3) != 0) = true := bne_iff_ne.mpr c4
    replace H := Option.bind_eq_some_iff.mp H
    obtain ⟨⟨t113, t114⟩, A60, H⟩ := H
    replace H : ((octets_Int.f l0 0 (ji3)).bind fun bt115 => (if t114 = true then (if bt115.2 = true then (if 0 < (l0.length : Int) then (longcaselaw04_OctetsSigns.j0 k l0 t112 ji3 t113 bt115.1 ((decide ((rd l0 0) > 127)) != (decide (bt115.1 < 0)))) else (none)) else (longcaselaw04_OctetsSigns.j0 k l0 t112 ji3 t113 bt115.1 true)) else (longcaselaw04_OctetsSigns.j0 k l0 t112 ji3 t113 bt115.1 true))) = some r := H
    have A6 := Aside0.mk A60
    clear A60
    replace H := Option.bind_eq_some_iff.mp H
    obtain ⟨⟨t115, t116⟩, A70, H⟩ := H
    replace H : (if t114 = true then (if t116 = true then (if 0 < (l0.length : Int) then (longcaselaw04_OctetsSigns.j0 k l0 t112 ji3 t113 t115 ((decide ((rd l0 0) > 127)) != (decide (t115 < 0)))) else (none)) else (longcaselaw04_OctetsSigns.j0 k l0 t112 ji3 t113 t115 true)) else (longcaselaw04_OctetsSigns.j0 k l0 t112 ji3 t113 t115 true)) = some r := H
    have A7 := Aside0.mk A70
    clear A70
    have HC8 := Aside0.mk H
    clear H
    go_enter Try.func5, Try.ntmps5
    go_upto_region 7 with (first | ((with_reducible refine gate_callee (f := 7) rfl ?_); refine goesL_ (some 10) rfl rfl Try.func7 (by kernel_rfl) rfl #[] rfl (by (try simp only [List.map_toArray, List.map_cons, List.map_nil]); first | done | rfl | (simp only [List.length_drop, List.length_take]; rfl)) ?_; (with_reducible refine (longcaselaw04_shown.calls  t112 _ A2.out).mono ?_); rintro e w9 ⟨rfl, hb⟩; refine ⟨_, rfl, ?_⟩; have n0_ := Aside0.mk (below_step (by repeat (first | (with_reducible first | exact HB.out | apply below_alloc | apply pw_below_drewN | apply below_drew1) | exact HB.out)) hb); clear HB; have HB := n0_; clear n0_; (try clear hb); (try clear hb2); (try clear hk); (try clear hi)) | ((with_reducible refine gate_callee (f := 11) rfl ?_); refine goesL_ (some 20) rfl rfl Try.func11 (by kernel_rfl) rfl #[.slice A0 l0.length c0, .int .i64 0, .int .i64 ji3] rfl (by (try simp only [List.map_toArray, List.map_cons, List.map_nil]); first | done | (simp only [hji3]; rfl) | rfl | (simp only [List.length_drop, List.length_take]; rfl)) ?_; (with_reducible refine (octets_Uint.calls _ _ l0 0 ji3 t113 t114 _ ?side1 ?side2 A6.out).mono ?_); (case side1 => repeat (first | exact (Kd.C_below HR0.out HB.out) | (with_reducible refine Kd.C_alloc ?_ _) | (with_reducible refine Kd.C_drewN ?_ _) | (with_reducible refine Kd.C_drew ?_))); (case side2 => exact HC0.out); rintro e w' ⟨rfl, ⟨nd, rfl⟩⟩; refine ⟨_, rfl, ?_⟩) | ((with_reducible refine gate_callee (f := 9) rfl ?_); refine goesL_ (some 26) rfl rfl Try.func9 (by kernel_rfl) rfl #[.slice A0 l0.length c0, .int .i64 0, .int .i64 ji3] rfl (by (try simp only [List.map_toArray, List.map_cons, List.map_nil]); first | done | (simp only [hji3]; rfl) | rfl | (simp only [List.length_drop, List.length_take]; rfl)) ?_; (with_reducible refine (octets_Int.calls _ _ l0 0 ji3 t115 t116 _ ?side1 ?side2 A7.out).mono ?_); (case side1 => repeat (first | exact (Kd.C_below HR0.out (by repeat (first | (with_reducible first | exact HB.out | apply below_alloc | apply pw_below_drewN | apply below_drew1) | exact HB.out))) | (with_reducible refine Kd.C_alloc ?_ _) | (with_reducible refine Kd.C_drewN ?_ _) | (with_reducible refine Kd.C_drew ?_))); (case side2 => exact HC0.out); rintro e w' ⟨rfl, ⟨nd, rfl⟩⟩; refine ⟨_, rfl, ?_⟩))
    (try simp only [Act.put, List.setIfInBounds_toArray, List.set_cons_zero, List.set_cons_succ])
    go_cut [43] (fun v43 wc => ∃ (kq : Nat) (x43_7 : Bool), v43 = .bool x43_7 ∧ Aside0 (longcaselaw04_OctetsSigns.j0 kq l0 t112 ji3 t113 t115 x43_7 = some r) ∧ Aside0 (kq ≤ k) ∧ Aside0 (Below w.heap.size w wc))
    case first =>
      have H := HC8.out
      clear HC8
      by_cases c10 : t114 = true
      · subst c10
        have H1 : (if t116 = true then (if 0 < (l0.length : Int) then (longcaselaw04_OctetsSigns.j0 k l0 t112 ji3 t113 t115 ((decide ((rd l0 0) > 127)) != (decide (t115 < 0)))) else (none)) else (longcaselaw04_OctetsSigns.j0 k l0 t112 ji3 t113 t115 true)) = some r := by rw [if_pos rfl] at H; exact H
        clear H
        have H := H1
        clear H1
        by_cases c11 : t116 = true
        · subst c11
          have H1 : (if 0 < (l0.length : Int) then (longcaselaw04_OctetsSigns.j0 k l0 t112 ji3 t113 t115 ((decide ((rd l0 0) > 127)) != (decide (t115 < 0)))) else (none)) = some r := by rw [if_pos rfl] at H; exact H
          clear H
          have H := H1
          clear H1
          by_cases c12 : 0 < (l0.length : Int)
          · rw [if_pos c12] at H
            have c12b0 : decide (0 < (l0.length : Int)) = true := decide_eq_true c12
            have c12b1 : decide (0 < l0.length) = true := decide_eq_true (by omega)
            clear c12
            (first | rw [c12b0] | (simp only [i64_w, i32_w]; rw [c12b0]) | skip)
            have H' := Aside0.mk H
            clear H
            have p117 : 0 ≤ (0 : Int) := (by omega)
            have q117 : 0 < (l0.length : Int) := of_decide_eq_true (by first | (with_reducible assumption) | assumption)
            obtain ⟨ad117, e117, hx117_0⟩ := Kd.at_int HR0.out 0 p117 q117
            cases e117
            have qi117 : (0 < l0.length) = True := eq_true (by omega)
            (try rw [show ((0 : Int)).toNat = 0 from rfl] at hx117_0)
            (try rw [Addr.add_zero'] at hx117_0)
            replace hx117_0 := (HB.out.cell (World.block_lt_of_cell? w _ hx117_0)).trans hx117_0
            replace p117 := eq_true p117
            replace q117 := eq_true q117
            go_wp2
            go_meet
            case rel => exact ⟨_, (((decide ((rd l0 0) > 127)) != (decide (t115 < 0)))), (by first | rfl | (simp; done) | (simp [*]; done)), H', ⟨by first | omega | exact Nat.le_refl _⟩, ⟨by repeat (first | (with_reducible first | exact HB.out | apply below_alloc | apply pw_below_drewN | apply below_drew1) | exact HB.out)⟩⟩
          · rw [if_neg c12] at H
            exact absurd H (by simp)
        · replace c11 := Bool.eq_false_iff.mpr c11
          subst c11
          have H1 : (longcaselaw04_OctetsSigns.j0 k l0 t112 ji3 t113 t115 true) = some r := by rw [if_neg (show ¬ (false = true) by decide)] at H; exact H
          clear H
          have H := H1
          clear H1
          have H' := Aside0.mk H
          clear H
          go_wp2
          go_meet
          case rel => exact ⟨_, (true), (by first | rfl | (simp; done) | (simp [*]; done)), H', ⟨by first | omega | exact Nat.le_refl _⟩, ⟨by repeat (first | (with_reducible first | exact HB.out | apply below_alloc | apply pw_below_drewN | apply below_drew1) | exact HB.out)⟩⟩
      · replace c10 := Bool.eq_false_iff.mpr c10
        subst c10
        have H1 : (longcaselaw04_OctetsSigns.j0 k l0 t112 ji3 t113 t115 true) = some r := by rw [if_neg (show ¬ (false = true) by decide)] at H; exact H
        clear H
        have H := H1
        clear H1
        have H' := Aside0.mk H
        clear H
        go_wp2
        go_meet
        case rel => exact ⟨_, (true), (by first | rfl | (simp; done) | (simp [*]; done)), H', ⟨by first | omega | exact Nat.le_refl _⟩, ⟨by repeat (first | (with_reducible first | exact HB.out | apply below_alloc | apply pw_below_drewN | apply below_drew1) | exact HB.out)⟩⟩
    case rest =>
      clear HC8
      try clear c1
      try clear p1
      try clear q1
      try clear hx1
      try clear qi1
      try clear p2
      try clear c4
      try clear c4b0
      try clear c4b1
      try clear c5
      try clear c7
      try clear c9
      try clear c10
      try clear c11
      try clear p11
      try clear q11
      try clear hx11
      try clear qi11
      try clear c12
      try clear c12b0
      try clear c12b1
      try clear hx117_0
      try clear p117
      try clear q117
      obtain ⟨kq, x43_7, rfl, HA, HJ7, HB⟩ := hcut
      cases kq with
      | zero => exact absurd HA.out (by simp [longcaselaw04_OctetsSigns.j0])
      | succ kj7 =>
        have H := HA.out
        clear HA
        simp only [longcaselaw04_OctetsSigns.j0] at H
        by_cases c13 : x43_7 = true
        · subst c13
          have H1 : (some false) = some r := by rw [if_pos rfl] at H; exact H
          clear H
          have H := H1
          clear H1
          obtain rfl := Option.some.inj H
          go_wp2
          go_ret
          exact ⟨by first | rfl | (simp [errW_none, errW_some] <;> rfl) | (simp only [← hji3]; first | rfl | (simp [errW_none, errW_some] <;> rfl)) | (simp [*, errW_none, errW_some] <;> rfl), by repeat (first | (with_reducible first | exact HB.out | apply below_alloc | apply pw_below_drewN | apply below_drew1) | exact HB.out)⟩
        · replace c13 := Bool.eq_false_iff.mpr c13
          subst c13
          have H1 : (if ji3 = 8 then (if t112 = true then (some (t113 == (IntKind.u64.wrap (t115)))) else (some false)) else (if 0 ≤ (IntKind.u64.wrap (wrap64 (8 * ji3))) then (if 0 < (l0.length : Int) then (if (rd l0 0) > 127 then (if t112 = true then (some ((wrap64 (t113)) == (wrap64 (t115 + (shl .i64 1 (IntKind.u64.wrap (wrap64 (8 * ji3)))))))) else (some false)) else (if t112 = true then (some ((wrap64 (t113)) == t115)) else (some false))) else (none)) else (none))) = some r := by rw [if_neg (show ¬ (false = true) by decide)] at H; exact H
          clear H
          have H := H1
          clear H1
          by_cases c14 : ji3 = 8
          · rw [if_pos c14] at H
            have c14b0 : (ji3 == 8) = true := beq_iff_eq.mpr c14
            have c14b1 : (ji3 != 8) = false := bne_eq_false_iff_eq.mpr c14
            clear c14
            by_cases c15 : t112 = true
            · subst c15
              have H1 : (some (t113 == (IntKind.u64.wrap (t115)))) = some r := by rw [if_pos rfl] at H; exact H
              clear H
              have H := H1
              clear H1
              obtain rfl := Option.some.inj H
              go_wp2
              go_ret
              exact ⟨by first | rfl | (simp [errW_none, errW_some] <;> rfl) | (simp only [← hji3]; first | rfl | (simp [errW_none, errW_some] <;> rfl)) | (simp [*, errW_none, errW_some] <;> rfl), by repeat (first | (with_reducible first | exact HB.out | apply below_alloc | apply pw_below_drewN | apply below_drew1) | exact HB.out)⟩
            · replace c15 := Bool.eq_false_iff.mpr c15
              subst c15
              have H1 : (some false) = some r := by rw [if_neg (show ¬ (false = true) by decide)] at H; exact H
              clear H
              have H := H1
              clear H1
              obtain rfl := Option.some.inj H
              go_wp2
              go_ret
              exact ⟨by first | rfl | (simp [errW_none, errW_some] <;> rfl) | (simp only [← hji3]; first | rfl | (simp [errW_none, errW_some] <;> rfl)) | (simp [*, errW_none, errW_some] <;> rfl), by repeat (first | (with_reducible first | exact HB.out | apply below_alloc | apply pw_below_drewN | apply below_drew1) | exact HB.out)⟩
          · rw [if_neg c14] at H
            have c14b0 : (ji3 == 8) = false := beq_eq_false_iff_ne.mpr c14
            have c14b1 : (ji3 != 8) = true := bne_iff_ne.mpr c14
            obtain ⟨ji16, hji16⟩ : ∃ j_ : Int, (IntKind.u64.wrap (wrap64 (8 * ji3))) = j_ := ⟨_, rfl⟩
            replace H : (if 0 ≤ (ji16) then (if 0 < (l0.length : Int) then (if (rd l0 0) > 127 then (if t112 = true then (some ((wrap64 (t113)) == (wrap64 (t115 + (shl .i64 1 (ji16)))))) else (some false)) else (if t112 = true then (some ((wrap64 (t113)) == t115)) else (some false))) else (none)) else (none)) = some r := by first | (rw [hji16] at H; exact H) | (simp only [hji16] at H ⊢; exact H)
            by_cases c17 : 0 ≤ (ji16)
            · rw [if_pos c17] at H
              have c17b0 := eq_true c17
              have c17b1 : decide (0 ≤ (ji16)) = true := decide_eq_true c17
              clear c17
              obtain ⟨ji18, hji18⟩ : ∃ j_ : Int, (shl .i64 1 (ji16)) = j_ := ⟨_, rfl⟩
              replace H : (if 0 < (l0.length : Int) then (if (rd l0 0) > 127 then (if t112 = true then (some ((wrap64 (t113)) == (wrap64 (t115 + (ji18))))) else (some false)) else (if t112 = true then (some ((wrap64 (t113)) == t115)) else (some false))) else (none)) = some r := by first | (rw [hji18] at H; exact H) | (simp only [hji18] at H ⊢; exact H)
              have hji18_ : (IntKind.i64.wrap (1 * 2 ^ min (ji16).toNat 64)) = ji18 := hji18
              have hji18z : (ji16) ≤ 64 → (IntKind.i64.wrap (1 * 2 ^ (ji16).toNat)) = ji18 := shl_small hji18
              have hji18u : (IntKind.i64.wrap (2 ^ min (ji16).toNat 64)) = ji18 := by have h_ := hji18_; rw [Int.one_mul] at h_; exact h_
              have hji18v : (ji16) ≤ 64 → (IntKind.i64.wrap (2 ^ (ji16).toNat)) = ji18 := fun hle_ => by have h_ := hji18z hle_; rw [Int.one_mul] at h_; exact h_
              have hji18y : (wrap64 (1 * 2 ^ min (ji16).toNat 64)) = ji18 := (i64_w _).symm.trans hji18_
              have hji18x : (ji16) ≤ 64 → (wrap64 (1 * 2 ^ (ji16).toNat)) = ji18 := fun h_ => (i64_w _).symm.trans (hji18z h_)
              by_cases c19 : 0 < (l0.length : Int)
              · rw [if_pos c19] at H
                have c19b0 : decide (0 < (l0.length : Int)) = true := decide_eq_true c19
                have c19b1 : decide (0 < l0.length) = true := decide_eq_true (by omega)
                clear c19
                by_cases c20 : (rd l0 0) > 127
                · rw [if_pos c20] at H
                  have c20b0 : decide (127 < (rd l0 0)) = true := decide_eq_true c20
                  clear c20
                  by_cases c21 : t112 = true
                  · subst c21
                    have H1 : (some ((wrap64 (t113)) == (wrap64 (t115 + (ji18))))) = some r := by rw [if_pos rfl] at H; exact H
                    clear H
                    have H := H1
                    clear H1
                    obtain rfl := Option.some.inj H
                    have p118 : 0 ≤ (0 : Int) := (by omega)
                    have q118 : 0 < (l0.length : Int) := of_decide_eq_true (by first | (with_reducible assumption) | assumption)
                    obtain ⟨ad118, e118, hx118_0⟩ := Kd.at_int HR0.out 0 p118 q118
                    cases e118
                    have qi118 : (0 < l0.length) = True := eq_true (by omega)
                    (try rw [show ((0 : Int)).toNat = 0 from rfl] at hx118_0)
                    (try rw [Addr.add_zero'] at hx118_0)
                    replace hx118_0 := (HB.out.cell (World.block_lt_of_cell? w _ hx118_0)).trans hx118_0
                    replace p118 := eq_true p118
                    replace q118 := eq_true q118
                    go_wp2
                    go_ret
                    exact ⟨by first | rfl | (simp [errW_none, errW_some] <;> rfl) | (have e_ : 8 * ji3 = ji16 := (by rw [← hji16, IntKind.wrap_u64]; unfold wrap64; omega); have v_ := hji18v (by omega); rw [i64_w] at v_; rw [e_, v_]; rfl) | (simp only [← hji3, ← hji16, ← hji18]; first | rfl | (simp [errW_none, errW_some] <;> rfl)) | (simp [*, errW_none, errW_some] <;> rfl), by repeat (first | (with_reducible first | exact HB.out | apply below_alloc | apply pw_below_drewN | apply below_drew1) | exact HB.out)⟩
                  · replace c21 := Bool.eq_false_iff.mpr c21
                    subst c21
                    have H1 : (some false) = some r := by rw [if_neg (show ¬ (false = true) by decide)] at H; exact H
                    clear H
                    have H := H1
                    clear H1
                    obtain rfl := Option.some.inj H
                    have p118 : 0 ≤ (0 : Int) := (by omega)
                    have q118 : 0 < (l0.length : Int) := of_decide_eq_true (by first | (with_reducible assumption) | assumption)
                    obtain ⟨ad118, e118, hx118_0⟩ := Kd.at_int HR0.out 0 p118 q118
                    cases e118
                    have qi118 : (0 < l0.length) = True := eq_true (by omega)
                    (try rw [show ((0 : Int)).toNat = 0 from rfl] at hx118_0)
                    (try rw [Addr.add_zero'] at hx118_0)
                    replace hx118_0 := (HB.out.cell (World.block_lt_of_cell? w _ hx118_0)).trans hx118_0
                    replace p118 := eq_true p118
                    replace q118 := eq_true q118
                    go_wp2
                    go_ret
                    exact ⟨by first | rfl | (simp [errW_none, errW_some] <;> rfl) | (have e_ : 8 * ji3 = ji16 := (by rw [← hji16, IntKind.wrap_u64]; unfold wrap64; omega); have v_ := hji18v (by omega); rw [i64_w] at v_; rw [e_, v_]; rfl) | (simp only [← hji3, ← hji16, ← hji18]; first | rfl | (simp [errW_none, errW_some] <;> rfl)) | (simp [*, errW_none, errW_some] <;> rfl), by repeat (first | (with_reducible first | exact HB.out | apply below_alloc | apply pw_below_drewN | apply below_drew1) | exact HB.out)⟩
                · rw [if_neg c20] at H
                  have c20b0 : decide (127 < (rd l0 0)) = false := decide_eq_false c20
                  clear c20
                  by_cases c22 : t112 = true
                  · subst c22
                    have H1 : (some ((wrap64 (t113)) == t115)) = some r := by rw [if_pos rfl] at H; exact H
                    clear H
                    have H := H1
                    clear H1
                    obtain rfl := Option.some.inj H
                    have p118 : 0 ≤ (0 : Int) := (by omega)
                    have q118 : 0 < (l0.length : Int) := of_decide_eq_true (by first | (with_reducible assumption) | assumption)
                    obtain ⟨ad118, e118, hx118_0⟩ := Kd.at_int HR0.out 0 p118 q118
                    cases e118
                    have qi118 : (0 < l0.length) = True := eq_true (by omega)
                    (try rw [show ((0 : Int)).toNat = 0 from rfl] at hx118_0)
                    (try rw [Addr.add_zero'] at hx118_0)
                    replace hx118_0 := (HB.out.cell (World.block_lt_of_cell? w _ hx118_0)).trans hx118_0
                    replace p118 := eq_true p118
                    replace q118 := eq_true q118
                    go_wp2
                    go_ret
                    exact ⟨by first | rfl | (simp [errW_none, errW_some] <;> rfl) | (have e_ : 8 * ji3 = ji16 := (by rw [← hji16, IntKind.wrap_u64]; unfold wrap64; omega); have v_ := hji18v (by omega); rw [i64_w] at v_; rw [e_, v_]; rfl) | (simp only [← hji3, ← hji16, ← hji18]; first | rfl | (simp [errW_none, errW_some] <;> rfl)) | (simp [*, errW_none, errW_some] <;> rfl), by repeat (first | (with_reducible first | exact HB.out | apply below_alloc | apply pw_below_drewN | apply below_drew1) | exact HB.out)⟩
                  · replace c22 := Bool.eq_false_iff.mpr c22
                    subst c22
                    have H1 : (some false) = some r := by rw [if_neg (show ¬ (false = true) by decide)] at H; exact H
                    clear H
                    have H := H1
                    clear H1
                    obtain rfl := Option.some.inj H
                    have p118 : 0 ≤ (0 : Int) := (by omega)
                    have q118 : 0 < (l0.length : Int) := of_decide_eq_true (by first | (with_reducible assumption) | assumption)
                    obtain ⟨ad118, e118, hx118_0⟩ := Kd.at_int HR0.out 0 p118 q118
                    cases e118
                    have qi118 : (0 < l0.length) = True := eq_true (by omega)
                    (try rw [show ((0 : Int)).toNat = 0 from rfl] at hx118_0)
                    (try rw [Addr.add_zero'] at hx118_0)
                    replace hx118_0 := (HB.out.cell (World.block_lt_of_cell? w _ hx118_0)).trans hx118_0
                    replace p118 := eq_true p118
                    replace q118 := eq_true q118
                    go_wp2
                    go_ret
                    exact ⟨by first | rfl | (simp [errW_none, errW_some] <;> rfl) | (have e_ : 8 * ji3 = ji16 := (by rw [← hji16, IntKind.wrap_u64]; unfold wrap64; omega); have v_ := hji18v (by omega); rw [i64_w] at v_; rw [e_, v_]; rfl) | (simp only [← hji3, ← hji16, ← hji18]; first | rfl | (simp [errW_none, errW_some] <;> rfl)) | (simp [*, errW_none, errW_some] <;> rfl), by repeat (first | (with_reducible first | exact HB.out | apply below_alloc | apply pw_below_drewN | apply below_drew1) | exact HB.out)⟩
              · rw [if_neg c19] at H
                exact absurd H (by simp)
            · rw [if_neg c17] at H
              exact absurd H (by simp)

/-- THE ONE PURE STATEMENT of longcaselaw04_OctetsSigns: yours. -/
def longcaselaw04_OctetsSigns.Pure : Prop := ∀ (l0 : List Int), l0.length ≤ maxLen → l0.length * 1 ≤ 140737488351232 → (∀ x ∈ l0, (Lit.int .u8 x).wf = true) → ∃ k, longcaselaw04_OctetsSigns.f k l0 = some true
theorem longcaselaw04_OctetsSigns.walk (P : longcaselaw04_OctetsSigns.Pure) (a0 : Option Addr) (len0 cap0 : Nat) (z0 : List Int) (w : World) (w0 : (a0 = none ∧ len0 = 0 ∧ cap0 = 0 ∧ z0 = []) ∨ ∃ x, a0 = some x ∧ len0 ≤ cap0 ∧ cap0 ≤ maxLen ∧ z0.length = cap0 ∧ (∀ i, i < z0.length → w.cell? (x.add i) = some (.int .u8 (z0.getD i 0))) ∧ ∀ n ∈ z0, (Lit.int .u8 n).wf = true) (y0 : len0 * 1 ≤ 140737488351232) :
    Calls Try.prog 5 #[.slice a0 len0 cap0] w fun e w' => e = .returned (.bool true) ∧ Below w.heap.size w w' := by
  obtain ⟨l0, rfl, hr0, hm0, hw0, hc0⟩ := ReadsInt.ofRowC w0
  obtain ⟨k, h⟩ := P l0 hm0 y0 hw0
  refine (longcaselaw04_OctetsSigns.calls k _ _ l0 true w (Kd.C_of_reads (d := (0 : Int)) (h1 := fun _ => rfl) hr0) hc0 h).mono ?_
  rintro e w' ⟨rfl, hd⟩
  exact ⟨rfl, hd⟩

/-! ### longcaselaw04_OctetsParts: function 6 -/
def longcaselaw04_OctetsParts.f (k : Nat) (a0 : Int) (a1 : Int) : Option (Bool) := (longcaselaw04_shown.f).bind fun t119 => ((octets_Put.f k ([] : List Int) 8 a0).bind fun t120 => (if (t120.length : Int) = 8 then ((octets_Uint.f t120 0 (wrap64 (1 + (Int.tmod (Go.bits .and .i64 a1 65535) 7)))).bind fun bt123 => ((octets_Uint.f t120 (wrap64 (1 + (Int.tmod (Go.bits .and .i64 a1 65535) 7))) (wrap64 (8 - (wrap64 (1 + (Int.tmod (Go.bits .and .i64 a1 65535) 7)))))).bind fun bt125 => ((octets_Uint.f t120 0 8).bind fun bt127 => (if t119 = true then (if bt123.2 = true then (if bt125.2 = true then (if bt127.2 = true then (if bt127.1 = a0 then (if 0 ≤ (IntKind.u64.wrap (wrap64 (8 * (wrap64 (8 - (wrap64 (1 + (Int.tmod (Go.bits .and .i64 a1 65535) 7)))))))) then (some ((IntKind.u64.wrap ((shl .u64 bt123.1 (IntKind.u64.wrap (wrap64 (8 * (wrap64 (8 - (wrap64 (1 + (Int.tmod (Go.bits .and .i64 a1 65535) 7))))))))) + bt125.1)) == a0)) else (none)) else (some false)) else (some false)) else (some false)) else (some false)) else (some false))))) else (some false)))
theorem longcaselaw04_OctetsParts.mono : ∀ a0 a1 k, LeO (longcaselaw04_OctetsParts.f k a0 a1) (longcaselaw04_OctetsParts.f (k + 1) a0 a1) := by
  intro a0 a1 k
  unfold longcaselaw04_OctetsParts.f
  repeat' first
      | (with_reducible exact octets_Put.mono _ _ _ _)
      | (with_reducible exact LeO.refl _)
      | (with_reducible exact LeO.none _)
      | (with_reducible refine LeO.ite ?_ ?_)
      | (with_reducible refine LeO.bind ?_ (fun _ => ?_))
      | exact octets_Put.mono _ _ _ _
      | exact LeO.none _
      | refine LeO.ite ?_ ?_
      | refine LeO.bind ?_ (fun _ => ?_)
set_option maxHeartbeats 8000000 in
set_option maxRecDepth 100000 in
theorem longcaselaw04_OctetsParts.calls (k : Nat) (a0 : Int) (a1 : Int) (r : Bool) (w : World) (h : longcaselaw04_OctetsParts.f k a0 a1 = some r) :
    Calls Try.prog 6 #[.int .u64 a0, .int .i64 a1] w fun e w' => e = .returned (.bool r) ∧ Below w.heap.size w w' := by
  have HB := Aside0.mk (Below.refl w.heap.size w)
  have H : ((longcaselaw04_shown.f).bind fun t119 => ((octets_Put.f k ([] : List Int) 8 a0).bind fun t120 => (if (t120.length : Int) = 8 then ((octets_Uint.f t120 0 (wrap64 (1 + (Int.tmod (Go.bits .and .i64 a1 65535) 7)))).bind fun bt123 => ((octets_Uint.f t120 (wrap64 (1 + (Int.tmod (Go.bits .and .i64 a1 65535) 7))) (wrap64 (8 - (wrap64 (1 + (Int.tmod (Go.bits .and .i64 a1 65535) 7)))))).bind fun bt125 => ((octets_Uint.f t120 0 8).bind fun bt127 => (if t119 = true then (if bt123.2 = true then (if bt125.2 = true then (if bt127.2 = true then (if bt127.1 = a0 then (if 0 ≤ (IntKind.u64.wrap (wrap64 (8 * (wrap64 (8 - (wrap64 (1 + (Int.tmod (Go.bits .and .i64 a1 65535) 7)))))))) then (some ((IntKind.u64.wrap ((shl .u64 bt123.1 (IntKind.u64.wrap (wrap64 (8 * (wrap64 (8 - (wrap64 (1 + (Int.tmod (Go.bits .and .i64 a1 65535) 7))))))))) + bt125.1)) == a0)) else (none)) else (some false)) else (some false)) else (some false)) else (some false)) else (some false))))) else (some false)))) = some r := h
  clear h
  replace H := Option.bind_eq_some_iff.mp H
  obtain ⟨t119, A30, H⟩ := H
  replace H : ((octets_Put.f k ([] : List Int) 8 a0).bind fun t120 => (if (t120.length : Int) = 8 then ((octets_Uint.f t120 0 (wrap64 (1 + (Int.tmod (Go.bits .and .i64 a1 65535) 7)))).bind fun bt123 => ((octets_Uint.f t120 (wrap64 (1 + (Int.tmod (Go.bits .and .i64 a1 65535) 7))) (wrap64 (8 - (wrap64 (1 + (Int.tmod (Go.bits .and .i64 a1 65535) 7)))))).bind fun bt125 => ((octets_Uint.f t120 0 8).bind fun bt127 => (if t119 = true then (if bt123.2 = true then (if bt125.2 = true then (if bt127.2 = true then (if bt127.1 = a0 then (if 0 ≤ (IntKind.u64.wrap (wrap64 (8 * (wrap64 (8 - (wrap64 (1 + (Int.tmod (Go.bits .and .i64 a1 65535) 7)))))))) then (some ((IntKind.u64.wrap ((shl .u64 bt123.1 (IntKind.u64.wrap (wrap64 (8 * (wrap64 (8 - (wrap64 (1 + (Int.tmod (Go.bits .and .i64 a1 65535) 7))))))))) + bt125.1)) == a0)) else (none)) else (some false)) else (some false)) else (some false)) else (some false)) else (some false))))) else (some false))) = some r := H
  have A3 := Aside0.mk A30
  clear A30
  replace H := Option.bind_eq_some_iff.mp H
  obtain ⟨t120, A40, H⟩ := H
  replace H : (if (t120.length : Int) = 8 then ((octets_Uint.f t120 0 (wrap64 (1 + (Int.tmod (Go.bits .and .i64 a1 65535) 7)))).bind fun bt123 => ((octets_Uint.f t120 (wrap64 (1 + (Int.tmod (Go.bits .and .i64 a1 65535) 7))) (wrap64 (8 - (wrap64 (1 + (Int.tmod (Go.bits .and .i64 a1 65535) 7)))))).bind fun bt125 => ((octets_Uint.f t120 0 8).bind fun bt127 => (if t119 = true then (if bt123.2 = true then (if bt125.2 = true then (if bt127.2 = true then (if bt127.1 = a0 then (if 0 ≤ (IntKind.u64.wrap (wrap64 (8 * (wrap64 (8 - (wrap64 (1 + (Int.tmod (Go.bits .and .i64 a1 65535) 7)))))))) then (some ((IntKind.u64.wrap ((shl .u64 bt123.1 (IntKind.u64.wrap (wrap64 (8 * (wrap64 (8 - (wrap64 (1 + (Int.tmod (Go.bits .and .i64 a1 65535) 7))))))))) + bt125.1)) == a0)) else (none)) else (some false)) else (some false)) else (some false)) else (some false)) else (some false))))) else (some false)) = some r := H
  have A4 := Aside0.mk A40
  clear A40
  by_cases c5 : (t120.length : Int) = 8
  · rw [if_pos c5] at H
    have c5b0 : ((t120.length : Int) == 8) = true := beq_iff_eq.mpr c5
    have c5b1 : ((t120.length : Int) != 8) = false := bne_eq_false_iff_eq.mpr c5
    clear c5
    replace H := Option.bind_eq_some_iff.mp H
    obtain ⟨⟨t123, t124⟩, A60, H⟩ := H
    replace H : ((octets_Uint.f t120 (wrap64 (1 + (Int.tmod (Go.bits .and .i64 a1 65535) 7))) (wrap64 (8 - (wrap64 (1 + (Int.tmod (Go.bits .and .i64 a1 65535) 7)))))).bind fun bt125 => ((octets_Uint.f t120 0 8).bind fun bt127 => (if t119 = true then (if t124 = true then (if bt125.2 = true then (if bt127.2 = true then (if bt127.1 = a0 then (if 0 ≤ (IntKind.u64.wrap (wrap64 (8 * (wrap64 (8 - (wrap64 (1 + (Int.tmod (Go.bits .and .i64 a1 65535) 7)))))))) then (some ((IntKind.u64.wrap ((shl .u64 t123 (IntKind.u64.wrap (wrap64 (8 * (wrap64 (8 - (wrap64 (1 + (Int.tmod (Go.bits .and .i64 a1 65535) 7))))))))) + bt125.1)) == a0)) else (none)) else (some false)) else (some false)) else (some false)) else (some false)) else (some false)))) = some r := H
    have A6 := Aside0.mk A60
    clear A60
    replace H := Option.bind_eq_some_iff.mp H
    obtain ⟨⟨t125, t126⟩, A70, H⟩ := H
    replace H : ((octets_Uint.f t120 0 8).bind fun bt127 => (if t119 = true then (if t124 = true then (if t126 = true then (if bt127.2 = true then (if bt127.1 = a0 then (if 0 ≤ (IntKind.u64.wrap (wrap64 (8 * (wrap64 (8 - (wrap64 (1 + (Int.tmod (Go.bits .and .i64 a1 65535) 7)))))))) then (some ((IntKind.u64.wrap ((shl .u64 t123 (IntKind.u64.wrap (wrap64 (8 * (wrap64 (8 - (wrap64 (1 + (Int.tmod (Go.bits .and .i64 a1 65535) 7))))))))) + t125)) == a0)) else (none)) else (some false)) else (some false)) else (some false)) else (some false)) else (some false))) = some r := H
    have A7 := Aside0.mk A70
    clear A70
    replace H := Option.bind_eq_some_iff.mp H
    obtain ⟨⟨t127, t128⟩, A80, H⟩ := H
    replace H : (if t119 = true then (if t124 = true then (if t126 = true then (if t128 = true then (if t127 = a0 then (if 0 ≤ (IntKind.u64.wrap (wrap64 (8 * (wrap64 (8 - (wrap64 (1 + (Int.tmod (Go.bits .and .i64 a1 65535) 7)))))))) then (some ((IntKind.u64.wrap ((shl .u64 t123 (IntKind.u64.wrap (wrap64 (8 * (wrap64 (8 - (wrap64 (1 + (Int.tmod (Go.bits .and .i64 a1 65535) 7))))))))) + t125)) == a0)) else (none)) else (some false)) else (some false)) else (some false)) else (some false)) else (some false)) = some r := H
    have A8 := Aside0.mk A80
    clear A80
    by_cases c9 : t119 = true
    · subst c9
      have H1 : (if t124 = true then (if t126 = true then (if t128 = true then (if t127 = a0 then (if 0 ≤ (IntKind.u64.wrap (wrap64 (8 * (wrap64 (8 - (wrap64 (1 + (Int.tmod (Go.bits .and .i64 a1 65535) 7)))))))) then (some ((IntKind.u64.wrap ((shl .u64 t123 (IntKind.u64.wrap (wrap64 (8 * (wrap64 (8 - (wrap64 (1 + (Int.tmod (Go.bits .and .i64 a1 65535) 7))))))))) + t125)) == a0)) else (none)) else (some false)) else (some false)) else (some false)) else (some false)) = some r := by rw [if_pos rfl] at H; exact H
      clear H
      have H := H1
      clear H1
      by_cases c10 : t124 = true
      · subst c10
        have H1 : (if t126 = true then (if t128 = true then (if t127 = a0 then (if 0 ≤ (IntKind.u64.wrap (wrap64 (8 * (wrap64 (8 - (wrap64 (1 + (Int.tmod (Go.bits .and .i64 a1 65535) 7)))))))) then (some ((IntKind.u64.wrap ((shl .u64 t123 (IntKind.u64.wrap (wrap64 (8 * (wrap64 (8 - (wrap64 (1 + (Int.tmod (Go.bits .and .i64 a1 65535) 7))))))))) + t125)) == a0)) else (none)) else (some false)) else (some false)) else (some false)) = some r := by rw [if_pos rfl] at H; exact H
        clear H
        have H := H1
        clear H1
        by_cases c11 : t126 = true
        · subst c11
          have H1 : (if t128 = true then (if t127 = a0 then (if 0 ≤ (IntKind.u64.wrap (wrap64 (8 * (wrap64 (8 - (wrap64 (1 + (Int.tmod (Go.bits .and .i64 a1 65535) 7)))))))) then (some ((IntKind.u64.wrap ((shl .u64 t123 (IntKind.u64.wrap (wrap64 (8 * (wrap64 (8 - (wrap64 (1 + (Int.tmod (Go.bits .and .i64 a1 65535) 7))))))))) + t125)) == a0)) else (none)) else (some false)) else (some false)) = some r := by rw [if_pos rfl] at H; exact H
          clear H
          have H := H1
          clear H1
          by_cases c12 : t128 = true
          · subst c12
            have H1 : (if t127 = a0 then (if 0 ≤ (IntKind.u64.wrap (wrap64 (8 * (wrap64 (8 - (wrap64 (1 + (Int.tmod (Go.bits .and .i64 a1 65535) 7)))))))) then (some ((IntKind.u64.wrap ((shl .u64 t123 (IntKind.u64.wrap (wrap64 (8 * (wrap64 (8 - (wrap64 (1 + (Int.tmod (Go.bits .and .i64 a1 65535) 7))))))))) + t125)) == a0)) else (none)) else (some false)) = some r := by rw [if_pos rfl] at H; exact H
            clear H
            have H := H1
            clear H1
            by_cases c13 : t127 = a0
            · rw [if_pos c13] at H
              have c13b0 : (t127 == a0) = true := beq_iff_eq.mpr c13
              have c13b1 : (t127 != a0) = false := bne_eq_false_iff_eq.mpr c13
              clear c13
              obtain ⟨ji14, hji14⟩ : ∃ j_ : Int, (IntKind.u64.wrap (wrap64 (8 * (wrap64 (8 - (wrap64 (1 + (Int.tmod (Go.bits .and .i64 a1 65535) 7)))))))) = j_ := ⟨_, rfl⟩
              replace H : (if 0 ≤ (ji14) then (some ((IntKind.u64.wrap ((shl .u64 t123 (ji14)) + t125)) == a0)) else (none)) = some r := by first | (rw [hji14] at H; exact H) | (simp only [hji14] at H ⊢; exact H)
              (try rw [hji14] at A3)
              (try rw [hji14] at A4)
              (try rw [hji14] at A6)
              (try rw [hji14] at A7)
              (try rw [hji14] at A8)
              by_cases c15 : 0 ≤ (ji14)
              · rw [if_pos c15] at H
                have c15b0 := eq_true c15
                have c15b1 : decide (0 ≤ (ji14)) = true := decide_eq_true c15
                clear c15
                obtain ⟨ji16, hji16⟩ : ∃ j_ : Int, (shl .u64 t123 (ji14)) = j_ := ⟨_, rfl⟩
                replace H : (some ((IntKind.u64.wrap ((ji16) + t125)) == a0)) = some r := by first | (rw [hji16] at H; exact H) | (simp only [hji16] at H ⊢; exact H)
                (try rw [hji16] at A3)
                (try rw [hji16] at A4)
                (try rw [hji16] at A6)
                (try rw [hji16] at A7)
                (try rw [hji16] at A8)
                have hji16_ : (IntKind.u64.wrap (t123 * 2 ^ min (ji14).toNat 64)) = ji16 := hji16
                have hji16z : (ji14) ≤ 64 → (IntKind.u64.wrap (t123 * 2 ^ (ji14).toNat)) = ji16 := shl_small hji16
                obtain rfl := Option.some.inj H
                go_enter Try.func6, Try.ntmps6
                go_wp2_with (first | ((with_reducible refine gate_callee (f := 7) rfl ?_); refine goesL_ (some 13) rfl rfl Try.func7 (by kernel_rfl) rfl #[] rfl (by (try simp only [List.map_toArray, List.map_cons, List.map_nil]); first | done | rfl | (simp only [List.length_drop, List.length_take]; rfl)) ?_; (with_reducible refine (longcaselaw04_shown.calls  true _ A3.out).mono ?_); rintro e w17 ⟨rfl, hb⟩; refine ⟨_, rfl, ?_⟩; have n0_ := Aside0.mk (below_step (by repeat (first | (with_reducible first | exact HB.out | apply below_alloc | apply pw_below_drewN | apply below_drew1) | exact HB.out)) hb); clear HB; have HB := n0_; clear n0_; (try clear hb); (try clear hb2); (try clear hk); (try clear hi)) | ((with_reducible refine gate_callee (f := 8) rfl ?_); refine goesL_ (some 19) rfl rfl Try.func8 (by kernel_rfl) rfl #[.slice none 0 0, .int .i64 8, .int .u64 a0] rfl (by (try simp only [List.map_toArray, List.map_cons, List.map_nil]); first | done | rfl | (simp only [List.length_drop, List.length_take]; rfl)) ?_; (refine (octets_Put.calls k _ _ ([] : List Int) 8 a0 t120 _ ?side1 ?side2 A4.out).mono ?_); (case side1 => exact Kd.C_nil _ _); (case side2 => exact Nat.le_refl _); rintro e w18 ⟨v121, rfl, ho0, hb⟩; refine ⟨_, rfl, ?_⟩; have n0_ := Aside0.mk (Kd.R_lower ho0 (below_size (by repeat (first | (with_reducible first | exact HB.out | apply below_alloc | apply pw_below_drewN | apply below_drew1) | exact HB.out)))); have n1_ := Aside0.mk (below_step (by repeat (first | (with_reducible first | exact HB.out | apply below_alloc | apply pw_below_drewN | apply below_drew1) | exact HB.out)) hb); clear HB; have HO122 := n0_; have HB := n1_; clear n0_ n1_; (try clear hb); (try clear hb2); (try clear hk); (try clear hi); (try clear ho0); obtain ⟨Ao19, co19, eo19⟩ := Kd.R_slice HO122.out; subst eo19) | ((with_reducible refine gate_callee (f := 11) rfl ?_); refine goesL_ (some 26) rfl rfl Try.func11 (by kernel_rfl) rfl #[.slice Ao19 t120.length co19, .int .i64 0, .int .i64 (wrap64 (1 + (Int.tmod (Go.bits .and .i64 a1 65535) 7)))] rfl (by (try simp only [List.map_toArray, List.map_cons, List.map_nil]); first | done | rfl | (simp only [List.length_drop, List.length_take]; rfl)) ?_; (with_reducible refine (octets_Uint.calls _ _ t120 0 (wrap64 (1 + (Int.tmod (Go.bits .and .i64 a1 65535) 7))) t123 true _ ?side1 ?side2 A6.out).mono ?_); (case side1 => repeat (first | exact (Kd.R_reads' HO122.out).2.2 | (with_reducible refine Kd.C_alloc ?_ _) | (with_reducible refine Kd.C_drewN ?_ _) | (with_reducible refine Kd.C_drew ?_))); (case side2 => exact (Kd.R_reads' HO122.out).2.1); rintro e w' ⟨rfl, ⟨nd, rfl⟩⟩; refine ⟨_, rfl, ?_⟩) | ((with_reducible refine gate_callee (f := 11) rfl ?_); refine goesL_ (some 34) rfl rfl Try.func11 (by kernel_rfl) rfl #[.slice Ao19 t120.length co19, .int .i64 (wrap64 (1 + (Int.tmod (Go.bits .and .i64 a1 65535) 7))), .int .i64 (wrap64 (8 - (wrap64 (1 + (Int.tmod (Go.bits .and .i64 a1 65535) 7)))))] rfl (by (try simp only [List.map_toArray, List.map_cons, List.map_nil]); first | done | rfl | (simp only [List.length_drop, List.length_take]; rfl)) ?_; (with_reducible refine (octets_Uint.calls _ _ t120 (wrap64 (1 + (Int.tmod (Go.bits .and .i64 a1 65535) 7))) (wrap64 (8 - (wrap64 (1 + (Int.tmod (Go.bits .and .i64 a1 65535) 7))))) t125 true _ ?side1 ?side2 A7.out).mono ?_); (case side1 => repeat (first | exact (Kd.R_reads' HO122.out).2.2 | (with_reducible refine Kd.C_alloc ?_ _) | (with_reducible refine Kd.C_drewN ?_ _) | (with_reducible refine Kd.C_drew ?_))); (case side2 => exact (Kd.R_reads' HO122.out).2.1); rintro e w' ⟨rfl, ⟨nd, rfl⟩⟩; refine ⟨_, rfl, ?_⟩) | ((with_reducible refine gate_callee (f := 11) rfl ?_); refine goesL_ (some 39) rfl rfl Try.func11 (by kernel_rfl) rfl #[.slice Ao19 t120.length co19, .int .i64 0, .int .i64 8] rfl (by (try simp only [List.map_toArray, List.map_cons, List.map_nil]); first | done | rfl | (simp only [List.length_drop, List.length_take]; rfl)) ?_; (with_reducible refine (octets_Uint.calls _ _ t120 0 8 t127 true _ ?side1 ?side2 A8.out).mono ?_); (case side1 => repeat (first | exact (Kd.R_reads' HO122.out).2.2 | (with_reducible refine Kd.C_alloc ?_ _) | (with_reducible refine Kd.C_drewN ?_ _) | (with_reducible refine Kd.C_drew ?_))); (case side2 => exact (Kd.R_reads' HO122.out).2.1); rintro e w' ⟨rfl, ⟨nd, rfl⟩⟩; refine ⟨_, rfl, ?_⟩))
                go_ret
                exact ⟨by first | rfl | (simp [errW_none, errW_some] <;> rfl) | (simp only [← hji14, ← hji16]; first | rfl | (simp [errW_none, errW_some] <;> rfl)) | (simp [*, errW_none, errW_some] <;> rfl), by repeat (first | (with_reducible first | exact HB.out | apply below_alloc | apply pw_below_drewN | apply below_drew1) | exact HB.out)⟩
              · rw [if_neg c15] at H
                exact absurd H (by simp)
            · rw [if_neg c13] at H
              have c13b0 : (t127 == a0) = false := beq_eq_false_iff_ne.mpr c13
              have c13b1 : (t127 != a0) = true := bne_iff_ne.mpr c13
              obtain rfl := Option.some.inj H
              go_enter Try.func6, Try.ntmps6
              go_wp2_with (first | ((with_reducible refine gate_callee (f := 7) rfl ?_); refine goesL_ (some 13) rfl rfl Try.func7 (by kernel_rfl) rfl #[] rfl (by (try simp only [List.map_toArray, List.map_cons, List.map_nil]); first | done | rfl | (simp only [List.length_drop, List.length_take]; rfl)) ?_; (with_reducible refine (longcaselaw04_shown.calls  true _ A3.out).mono ?_); rintro e w20 ⟨rfl, hb⟩; refine ⟨_, rfl, ?_⟩; have n0_ := Aside0.mk (below_step (by repeat (first | (with_reducible first | exact HB.out | apply below_alloc | apply pw_below_drewN | apply below_drew1) | exact HB.out)) hb); clear HB; have HB := n0_; clear n0_; (try clear hb); (try clear hb2); (try clear hk); (try clear hi)) | ((with_reducible refine gate_callee (f := 8) rfl ?_); refine goesL_ (some 19) rfl rfl Try.func8 (by kernel_rfl) rfl #[.slice none 0 0, .int .i64 8, .int .u64 a0] rfl (by (try simp only [List.map_toArray, List.map_cons, List.map_nil]); first | done | rfl | (simp only [List.length_drop, List.length_take]; rfl)) ?_; (refine (octets_Put.calls k _ _ ([] : List Int) 8 a0 t120 _ ?side1 ?side2 A4.out).mono ?_); (case side1 => exact Kd.C_nil _ _); (case side2 => exact Nat.le_refl _); rintro e w21 ⟨v121, rfl, ho0, hb⟩; refine ⟨_, rfl, ?_⟩; have n0_ := Aside0.mk (Kd.R_lower ho0 (below_size (by repeat (first | (with_reducible first | exact HB.out | apply below_alloc | apply pw_below_drewN | apply below_drew1) | exact HB.out)))); have n1_ := Aside0.mk (below_step (by repeat (first | (with_reducible first | exact HB.out | apply below_alloc | apply pw_below_drewN | apply below_drew1) | exact HB.out)) hb); clear HB; have HO122 := n0_; have HB := n1_; clear n0_ n1_; (try clear hb); (try clear hb2); (try clear hk); (try clear hi); (try clear ho0); obtain ⟨Ao22, co22, eo22⟩ := Kd.R_slice HO122.out; subst eo22) | ((with_reducible refine gate_callee (f := 11) rfl ?_); refine goesL_ (some 26) rfl rfl Try.func11 (by kernel_rfl) rfl #[.slice Ao22 t120.length co22, .int .i64 0, .int .i64 (wrap64 (1 + (Int.tmod (Go.bits .and .i64 a1 65535) 7)))] rfl (by (try simp only [List.map_toArray, List.map_cons, List.map_nil]); first | done | rfl | (simp only [List.length_drop, List.length_take]; rfl)) ?_; (with_reducible refine (octets_Uint.calls _ _ t120 0 (wrap64 (1 + (Int.tmod (Go.bits .and .i64 a1 65535) 7))) t123 true _ ?side1 ?side2 A6.out).mono ?_); (case side1 => repeat (first | exact (Kd.R_reads' HO122.out).2.2 | (with_reducible refine Kd.C_alloc ?_ _) | (with_reducible refine Kd.C_drewN ?_ _) | (with_reducible refine Kd.C_drew ?_))); (case side2 => exact (Kd.R_reads' HO122.out).2.1); rintro e w' ⟨rfl, ⟨nd, rfl⟩⟩; refine ⟨_, rfl, ?_⟩) | ((with_reducible refine gate_callee (f := 11) rfl ?_); refine goesL_ (some 34) rfl rfl Try.func11 (by kernel_rfl) rfl #[.slice Ao22 t120.length co22, .int .i64 (wrap64 (1 + (Int.tmod (Go.bits .and .i64 a1 65535) 7))), .int .i64 (wrap64 (8 - (wrap64 (1 + (Int.tmod (Go.bits .and .i64 a1 65535) 7)))))] rfl (by (try simp only [List.map_toArray, List.map_cons, List.map_nil]); first | done | rfl | (simp only [List.length_drop, List.length_take]; rfl)) ?_; (with_reducible refine (octets_Uint.calls _ _ t120 (wrap64 (1 + (Int.tmod (Go.bits .and .i64 a1 65535) 7))) (wrap64 (8 - (wrap64 (1 + (Int.tmod (Go.bits .and .i64 a1 65535) 7))))) t125 true _ ?side1 ?side2 A7.out).mono ?_); (case side1 => repeat (first | exact (Kd.R_reads' HO122.out).2.2 | (with_reducible refine Kd.C_alloc ?_ _) | (with_reducible refine Kd.C_drewN ?_ _) | (with_reducible refine Kd.C_drew ?_))); (case side2 => exact (Kd.R_reads' HO122.out).2.1); rintro e w' ⟨rfl, ⟨nd, rfl⟩⟩; refine ⟨_, rfl, ?_⟩) | ((with_reducible refine gate_callee (f := 11) rfl ?_); refine goesL_ (some 39) rfl rfl Try.func11 (by kernel_rfl) rfl #[.slice Ao22 t120.length co22, .int .i64 0, .int .i64 8] rfl (by (try simp only [List.map_toArray, List.map_cons, List.map_nil]); first | done | rfl | (simp only [List.length_drop, List.length_take]; rfl)) ?_; (with_reducible refine (octets_Uint.calls _ _ t120 0 8 t127 true _ ?side1 ?side2 A8.out).mono ?_); (case side1 => repeat (first | exact (Kd.R_reads' HO122.out).2.2 | (with_reducible refine Kd.C_alloc ?_ _) | (with_reducible refine Kd.C_drewN ?_ _) | (with_reducible refine Kd.C_drew ?_))); (case side2 => exact (Kd.R_reads' HO122.out).2.1); rintro e w' ⟨rfl, ⟨nd, rfl⟩⟩; refine ⟨_, rfl, ?_⟩))
              go_ret
              exact ⟨by first | rfl | (simp [errW_none, errW_some] <;> rfl) | (simp [*, errW_none, errW_some] <;> rfl), by repeat (first | (with_reducible first | exact HB.out | apply below_alloc | apply pw_below_drewN | apply below_drew1) | exact HB.out)⟩
          · replace c12 := Bool.eq_false_iff.mpr c12
            subst c12
            have H1 : (some false) = some r := by rw [if_neg (show ¬ (false = true) by decide)] at H; exact H
            clear H
            have H := H1
            clear H1
            obtain rfl := Option.some.inj H
            go_enter Try.func6, Try.ntmps6
            go_wp2_with (first | ((with_reducible refine gate_callee (f := 7) rfl ?_); refine goesL_ (some 13) rfl rfl Try.func7 (by kernel_rfl) rfl #[] rfl (by (try simp only [List.map_toArray, List.map_cons, List.map_nil]); first | done | rfl | (simp only [List.length_drop, List.length_take]; rfl)) ?_; (with_reducible refine (longcaselaw04_shown.calls  true _ A3.out).mono ?_); rintro e w23 ⟨rfl, hb⟩; refine ⟨_, rfl, ?_⟩; have n0_ := Aside0.mk (below_step (by repeat (first | (with_reducible first | exact HB.out | apply below_alloc | apply pw_below_drewN | apply below_drew1) | exact HB.out)) hb); clear HB; have HB := n0_; clear n0_; (try clear hb); (try clear hb2); (try clear hk); (try clear hi)) | ((with_reducible refine gate_callee (f := 8) rfl ?_); refine goesL_ (some 19) rfl rfl Try.func8 (by kernel_rfl) rfl #[.slice none 0 0, .int .i64 8, .int .u64 a0] rfl (by (try simp only [List.map_toArray, List.map_cons, List.map_nil]); first | done | rfl | (simp only [List.length_drop, List.length_take]; rfl)) ?_; (refine (octets_Put.calls k _ _ ([] : List Int) 8 a0 t120 _ ?side1 ?side2 A4.out).mono ?_); (case side1 => exact Kd.C_nil _ _); (case side2 => exact Nat.le_refl _); rintro e w24 ⟨v121, rfl, ho0, hb⟩; refine ⟨_, rfl, ?_⟩; have n0_ := Aside0.mk (Kd.R_lower ho0 (below_size (by repeat (first | (with_reducible first | exact HB.out | apply below_alloc | apply pw_below_drewN | apply below_drew1) | exact HB.out)))); have n1_ := Aside0.mk (below_step (by repeat (first | (with_reducible first | exact HB.out | apply below_alloc | apply pw_below_drewN | apply below_drew1) | exact HB.out)) hb); clear HB; have HO122 := n0_; have HB := n1_; clear n0_ n1_; (try clear hb); (try clear hb2); (try clear hk); (try clear hi); (try clear ho0); obtain ⟨Ao25, co25, eo25⟩ := Kd.R_slice HO122.out; subst eo25) | ((with_reducible refine gate_callee (f := 11) rfl ?_); refine goesL_ (some 26) rfl rfl Try.func11 (by kernel_rfl) rfl #[.slice Ao25 t120.length co25, .int .i64 0, .int .i64 (wrap64 (1 + (Int.tmod (Go.bits .and .i64 a1 65535) 7)))] rfl (by (try simp only [List.map_toArray, List.map_cons, List.map_nil]); first | done | rfl | (simp only [List.length_drop, List.length_take]; rfl)) ?_; (with_reducible refine (octets_Uint.calls _ _ t120 0 (wrap64 (1 + (Int.tmod (Go.bits .and .i64 a1 65535) 7))) t123 true _ ?side1 ?side2 A6.out).mono ?_); (case side1 => repeat (first | exact (Kd.R_reads' HO122.out).2.2 | (with_reducible refine Kd.C_alloc ?_ _) | (with_reducible refine Kd.C_drewN ?_ _) | (with_reducible refine Kd.C_drew ?_))); (case side2 => exact (Kd.R_reads' HO122.out).2.1); rintro e w' ⟨rfl, ⟨nd, rfl⟩⟩; refine ⟨_, rfl, ?_⟩) | ((with_reducible refine gate_callee (f := 11) rfl ?_); refine goesL_ (some 34) rfl rfl Try.func11 (by kernel_rfl) rfl #[.slice Ao25 t120.length co25, .int .i64 (wrap64 (1 + (Int.tmod (Go.bits .and .i64 a1 65535) 7))), .int .i64 (wrap64 (8 - (wrap64 (1 + (Int.tmod (Go.bits .and .i64 a1 65535) 7)))))] rfl (by (try simp only [List.map_toArray, List.map_cons, List.map_nil]); first | done | rfl | (simp only [List.length_drop, List.length_take]; rfl)) ?_; (with_reducible refine (octets_Uint.calls _ _ t120 (wrap64 (1 + (Int.tmod (Go.bits .and .i64 a1 65535) 7))) (wrap64 (8 - (wrap64 (1 + (Int.tmod (Go.bits .and .i64 a1 65535) 7))))) t125 true _ ?side1 ?side2 A7.out).mono ?_); (case side1 => repeat (first | exact (Kd.R_reads' HO122.out).2.2 | (with_reducible refine Kd.C_alloc ?_ _) | (with_reducible refine Kd.C_drewN ?_ _) | (with_reducible refine Kd.C_drew ?_))); (case side2 => exact (Kd.R_reads' HO122.out).2.1); rintro e w' ⟨rfl, ⟨nd, rfl⟩⟩; refine ⟨_, rfl, ?_⟩) | ((with_reducible refine gate_callee (f := 11) rfl ?_); refine goesL_ (some 39) rfl rfl Try.func11 (by kernel_rfl) rfl #[.slice Ao25 t120.length co25, .int .i64 0, .int .i64 8] rfl (by (try simp only [List.map_toArray, List.map_cons, List.map_nil]); first | done | rfl | (simp only [List.length_drop, List.length_take]; rfl)) ?_; (with_reducible refine (octets_Uint.calls _ _ t120 0 8 t127 false _ ?side1 ?side2 A8.out).mono ?_); (case side1 => repeat (first | exact (Kd.R_reads' HO122.out).2.2 | (with_reducible refine Kd.C_alloc ?_ _) | (with_reducible refine Kd.C_drewN ?_ _) | (with_reducible refine Kd.C_drew ?_))); (case side2 => exact (Kd.R_reads' HO122.out).2.1); rintro e w' ⟨rfl, ⟨nd, rfl⟩⟩; refine ⟨_, rfl, ?_⟩))
            go_ret
            exact ⟨by first | rfl | (simp [errW_none, errW_some] <;> rfl) | (simp [*, errW_none, errW_some] <;> rfl), by repeat (first | (with_reducible first | exact HB.out | apply below_alloc | apply pw_below_drewN | apply below_drew1) | exact HB.out)⟩
        · replace c11 := Bool.eq_false_iff.mpr c11
          subst c11
          have H1 : (some false) = some r := by rw [if_neg (show ¬ (false = true) by decide)] at H; exact H
          clear H
          have H := H1
          clear H1
          obtain rfl := Option.some.inj H
          go_enter Try.func6, Try.ntmps6
          go_wp2_with (first | ((with_reducible refine gate_callee (f := 7) rfl ?_); refine goesL_ (some 13) rfl rfl Try.func7 (by kernel_rfl) rfl #[] rfl (by (try simp only [List.map_toArray, List.map_cons, List.map_nil]); first | done | rfl | (simp only [List.length_drop, List.length_take]; rfl)) ?_; (with_reducible refine (longcaselaw04_shown.calls  true _ A3.out).mono ?_); rintro e w26 ⟨rfl, hb⟩; refine ⟨_, rfl, ?_⟩; have n0_ := Aside0.mk (below_step (by repeat (first | (with_reducible first | exact HB.out | apply below_alloc | apply pw_below_drewN | apply below_drew1) | exact HB.out)) hb); clear HB; have HB := n0_; clear n0_; (try clear hb); (try clear hb2); (try clear hk); (try clear hi)) | ((with_reducible refine gate_callee (f := 8) rfl ?_); refine goesL_ (some 19) rfl rfl Try.func8 (by kernel_rfl) rfl #[.slice none 0 0, .int .i64 8, .int .u64 a0] rfl (by (try simp only [List.map_toArray, List.map_cons, List.map_nil]); first | done | rfl | (simp only [List.length_drop, List.length_take]; rfl)) ?_; (refine (octets_Put.calls k _ _ ([] : List Int) 8 a0 t120 _ ?side1 ?side2 A4.out).mono ?_); (case side1 => exact Kd.C_nil _ _); (case side2 => exact Nat.le_refl _); rintro e w27 ⟨v121, rfl, ho0, hb⟩; refine ⟨_, rfl, ?_⟩; have n0_ := Aside0.mk (Kd.R_lower ho0 (below_size (by repeat (first | (with_reducible first | exact HB.out | apply below_alloc | apply pw_below_drewN | apply below_drew1) | exact HB.out)))); have n1_ := Aside0.mk (below_step (by repeat (first | (with_reducible first | exact HB.out | apply below_alloc | apply pw_below_drewN | apply below_drew1) | exact HB.out)) hb); clear HB; have HO122 := n0_; have HB := n1_; clear n0_ n1_; (try clear hb); (try clear hb2); (try clear hk); (try clear hi); (try clear ho0); obtain ⟨Ao28, co28, eo28⟩ := Kd.R_slice HO122.out; subst eo28) | ((with_reducible refine gate_callee (f := 11) rfl ?_); refine goesL_ (some 26) rfl rfl Try.func11 (by kernel_rfl) rfl #[.slice Ao28 t120.length co28, .int .i64 0, .int .i64 (wrap64 (1 + (Int.tmod (Go.bits .and .i64 a1 65535) 7)))] rfl (by (try simp only [List.map_toArray, List.map_cons, List.map_nil]); first | done | rfl | (simp only [List.length_drop, List.length_take]; rfl)) ?_; (with_reducible refine (octets_Uint.calls _ _ t120 0 (wrap64 (1 + (Int.tmod (Go.bits .and .i64 a1 65535) 7))) t123 true _ ?side1 ?side2 A6.out).mono ?_); (case side1 => repeat (first | exact (Kd.R_reads' HO122.out).2.2 | (with_reducible refine Kd.C_alloc ?_ _) | (with_reducible refine Kd.C_drewN ?_ _) | (with_reducible refine Kd.C_drew ?_))); (case side2 => exact (Kd.R_reads' HO122.out).2.1); rintro e w' ⟨rfl, ⟨nd, rfl⟩⟩; refine ⟨_, rfl, ?_⟩) | ((with_reducible refine gate_callee (f := 11) rfl ?_); refine goesL_ (some 34) rfl rfl Try.func11 (by kernel_rfl) rfl #[.slice Ao28 t120.length co28, .int .i64 (wrap64 (1 + (Int.tmod (Go.bits .and .i64 a1 65535) 7))), .int .i64 (wrap64 (8 - (wrap64 (1 + (Int.tmod (Go.bits .and .i64 a1 65535) 7)))))] rfl (by (try simp only [List.map_toArray, List.map_cons, List.map_nil]); first | done | rfl | (simp only [List.length_drop, List.length_take]; rfl)) ?_; (with_reducible refine (octets_Uint.calls _ _ t120 (wrap64 (1 + (Int.tmod (Go.bits .and .i64 a1 65535) 7))) (wrap64 (8 - (wrap64 (1 + (Int.tmod (Go.bits .and .i64 a1 65535) 7))))) t125 false _ ?side1 ?side2 A7.out).mono ?_); (case side1 => repeat (first | exact (Kd.R_reads' HO122.out).2.2 | (with_reducible refine Kd.C_alloc ?_ _) | (with_reducible refine Kd.C_drewN ?_ _) | (with_reducible refine Kd.C_drew ?_))); (case side2 => exact (Kd.R_reads' HO122.out).2.1); rintro e w' ⟨rfl, ⟨nd, rfl⟩⟩; refine ⟨_, rfl, ?_⟩) | ((with_reducible refine gate_callee (f := 11) rfl ?_); refine goesL_ (some 39) rfl rfl Try.func11 (by kernel_rfl) rfl #[.slice Ao28 t120.length co28, .int .i64 0, .int .i64 8] rfl (by (try simp only [List.map_toArray, List.map_cons, List.map_nil]); first | done | rfl | (simp only [List.length_drop, List.length_take]; rfl)) ?_; (with_reducible refine (octets_Uint.calls _ _ t120 0 8 t127 t128 _ ?side1 ?side2 A8.out).mono ?_); (case side1 => repeat (first | exact (Kd.R_reads' HO122.out).2.2 | (with_reducible refine Kd.C_alloc ?_ _) | (with_reducible refine Kd.C_drewN ?_ _) | (with_reducible refine Kd.C_drew ?_))); (case side2 => exact (Kd.R_reads' HO122.out).2.1); rintro e w' ⟨rfl, ⟨nd, rfl⟩⟩; refine ⟨_, rfl, ?_⟩))
          go_ret
          exact ⟨by first | rfl | (simp [errW_none, errW_some] <;> rfl) | (simp [*, errW_none, errW_some] <;> rfl), by repeat (first | (with_reducible first | exact HB.out | apply below_alloc | apply pw_below_drewN | apply below_drew1) | exact HB.out)⟩
      · replace c10 := Bool.eq_false_iff.mpr c10
        subst c10
        have H1 : (some false) = some r := by rw [if_neg (show ¬ (false = true) by decide)] at H; exact H
        clear H
        have H := H1
        clear H1
        obtain rfl := Option.some.inj H
        go_enter Try.func6, Try.ntmps6
        go_wp2_with (first | ((with_reducible refine gate_callee (f := 7) rfl ?_); refine goesL_ (some 13) rfl rfl Try.func7 (by kernel_rfl) rfl #[] rfl (by (try simp only [List.map_toArray, List.map_cons, List.map_nil]); first | done | rfl | (simp only [List.length_drop, List.length_take]; rfl)) ?_; (with_reducible refine (longcaselaw04_shown.calls  true _ A3.out).mono ?_); rintro e w29 ⟨rfl, hb⟩; refine ⟨_, rfl, ?_⟩; have n0_ := Aside0.mk (below_step (by repeat (first | (with_reducible first | exact HB.out | apply below_alloc | apply pw_below_drewN | apply below_drew1) | exact HB.out)) hb); clear HB; have HB := n0_; clear n0_; (try clear hb); (try clear hb2); (try clear hk); (try clear hi)) | ((with_reducible refine gate_callee (f := 8) rfl ?_); refine goesL_ (some 19) rfl rfl Try.func8 (by kernel_rfl) rfl #[.slice none 0 0, .int .i64 8, .int .u64 a0] rfl (by (try simp only [List.map_toArray, List.map_cons, List.map_nil]); first | done | rfl | (simp only [List.length_drop, List.length_take]; rfl)) ?_; (refine (octets_Put.calls k _ _ ([] : List Int) 8 a0 t120 _ ?side1 ?side2 A4.out).mono ?_); (case side1 => exact Kd.C_nil _ _); (case side2 => exact Nat.le_refl _); rintro e w30 ⟨v121, rfl, ho0, hb⟩; refine ⟨_, rfl, ?_⟩; have n0_ := Aside0.mk (Kd.R_lower ho0 (below_size (by repeat (first | (with_reducible first | exact HB.out | apply below_alloc | apply pw_below_drewN | apply below_drew1) | exact HB.out)))); have n1_ := Aside0.mk (below_step (by repeat (first | (with_reducible first | exact HB.out | apply below_alloc | apply pw_below_drewN | apply below_drew1) | exact HB.out)) hb); clear HB; have HO122 := n0_; have HB := n1_; clear n0_ n1_; (try clear hb); (try clear hb2); (try clear hk); (try clear hi); (try clear ho0); obtain ⟨Ao31, co31, eo31⟩ := Kd.R_slice HO122.out; subst eo31) | ((with_reducible refine gate_callee (f := 11) rfl ?_); refine goesL_ (some 26) rfl rfl Try.func11 (by kernel_rfl) rfl #[.slice Ao31 t120.length co31, .int .i64 0, .int .i64 (wrap64 (1 + (Int.tmod (Go.bits .and .i64 a1 65535) 7)))] rfl (by (try simp only [List.map_toArray, List.map_cons, List.map_nil]); first | done | rfl | (simp only [List.length_drop, List.length_take]; rfl)) ?_; (with_reducible refine (octets_Uint.calls _ _ t120 0 (wrap64 (1 + (Int.tmod (Go.bits .and .i64 a1 65535) 7))) t123 false _ ?side1 ?side2 A6.out).mono ?_); (case side1 => repeat (first | exact (Kd.R_reads' HO122.out).2.2 | (with_reducible refine Kd.C_alloc ?_ _) | (with_reducible refine Kd.C_drewN ?_ _) | (with_reducible refine Kd.C_drew ?_))); (case side2 => exact (Kd.R_reads' HO122.out).2.1); rintro e w' ⟨rfl, ⟨nd, rfl⟩⟩; refine ⟨_, rfl, ?_⟩) | ((with_reducible refine gate_callee (f := 11) rfl ?_); refine goesL_ (some 34) rfl rfl Try.func11 (by kernel_rfl) rfl #[.slice Ao31 t120.length co31, .int .i64 (wrap64 (1 + (Int.tmod (Go.bits .and .i64 a1 65535) 7))), .int .i64 (wrap64 (8 - (wrap64 (1 + (Int.tmod (Go.bits .and .i64 a1 65535) 7)))))] rfl (by (try simp only [List.map_toArray, List.map_cons, List.map_nil]); first | done | rfl | (simp only [List.length_drop, List.length_take]; rfl)) ?_; (with_reducible refine (octets_Uint.calls _ _ t120 (wrap64 (1 + (Int.tmod (Go.bits .and .i64 a1 65535) 7))) (wrap64 (8 - (wrap64 (1 + (Int.tmod (Go.bits .and .i64 a1 65535) 7))))) t125 t126 _ ?side1 ?side2 A7.out).mono ?_); (case side1 => repeat (first | exact (Kd.R_reads' HO122.out).2.2 | (with_reducible refine Kd.C_alloc ?_ _) | (with_reducible refine Kd.C_drewN ?_ _) | (with_reducible refine Kd.C_drew ?_))); (case side2 => exact (Kd.R_reads' HO122.out).2.1); rintro e w' ⟨rfl, ⟨nd, rfl⟩⟩; refine ⟨_, rfl, ?_⟩) | ((with_reducible refine gate_callee (f := 11) rfl ?_); refine goesL_ (some 39) rfl rfl Try.func11 (by kernel_rfl) rfl #[.slice Ao31 t120.length co31, .int .i64 0, .int .i64 8] rfl (by (try simp only [List.map_toArray, List.map_cons, List.map_nil]); first | done | rfl | (simp only [List.length_drop, List.length_take]; rfl)) ?_; (with_reducible refine (octets_Uint.calls _ _ t120 0 8 t127 t128 _ ?side1 ?side2 A8.out).mono ?_); (case side1 => repeat (first | exact (Kd.R_reads' HO122.out).2.2 | (with_reducible refine Kd.C_alloc ?_ _) | (with_reducible refine Kd.C_drewN ?_ _) | (with_reducible refine Kd.C_drew ?_))); (case side2 => exact (Kd.R_reads' HO122.out).2.1); rintro e w' ⟨rfl, ⟨nd, rfl⟩⟩; refine ⟨_, rfl, ?_⟩))
        go_ret
        exact ⟨by first | rfl | (simp [errW_none, errW_some] <;> rfl) | (simp [*, errW_none, errW_some] <;> rfl), by repeat (first | (with_reducible first | exact HB.out | apply below_alloc | apply pw_below_drewN | apply below_drew1) | exact HB.out)⟩
    · replace c9 := Bool.eq_false_iff.mpr c9
      subst c9
      have H1 : (some false) = some r := by rw [if_neg (show ¬ (false = true) by decide)] at H; exact H
      clear H
      have H := H1
      clear H1
      obtain rfl := Option.some.inj H
      go_enter Try.func6, Try.ntmps6
      go_wp2_with (first | ((with_reducible refine gate_callee (f := 7) rfl ?_); refine goesL_ (some 13) rfl rfl Try.func7 (by kernel_rfl) rfl #[] rfl (by (try simp only [List.map_toArray, List.map_cons, List.map_nil]); first | done | rfl | (simp only [List.length_drop, List.length_take]; rfl)) ?_; (with_reducible refine (longcaselaw04_shown.calls  false _ A3.out).mono ?_); rintro e w32 ⟨rfl, hb⟩; refine ⟨_, rfl, ?_⟩; have n0_ := Aside0.mk (below_step (by repeat (first | (with_reducible first | exact HB.out | apply below_alloc | apply pw_below_drewN | apply below_drew1) | exact HB.out)) hb); clear HB; have HB := n0_; clear n0_; (try clear hb); (try clear hb2); (try clear hk); (try clear hi)) | ((with_reducible refine gate_callee (f := 8) rfl ?_); refine goesL_ (some 19) rfl rfl Try.func8 (by kernel_rfl) rfl #[.slice none 0 0, .int .i64 8, .int .u64 a0] rfl (by (try simp only [List.map_toArray, List.map_cons, List.map_nil]); first | done | rfl | (simp only [List.length_drop, List.length_take]; rfl)) ?_; (refine (octets_Put.calls k _ _ ([] : List Int) 8 a0 t120 _ ?side1 ?side2 A4.out).mono ?_); (case side1 => exact Kd.C_nil _ _); (case side2 => exact Nat.le_refl _); rintro e w33 ⟨v121, rfl, ho0, hb⟩; refine ⟨_, rfl, ?_⟩; have n0_ := Aside0.mk (Kd.R_lower ho0 (below_size (by repeat (first | (with_reducible first | exact HB.out | apply below_alloc | apply pw_below_drewN | apply below_drew1) | exact HB.out)))); have n1_ := Aside0.mk (below_step (by repeat (first | (with_reducible first | exact HB.out | apply below_alloc | apply pw_below_drewN | apply below_drew1) | exact HB.out)) hb); clear HB; have HO122 := n0_; have HB := n1_; clear n0_ n1_; (try clear hb); (try clear hb2); (try clear hk); (try clear hi); (try clear ho0); obtain ⟨Ao34, co34, eo34⟩ := Kd.R_slice HO122.out; subst eo34) | ((with_reducible refine gate_callee (f := 11) rfl ?_); refine goesL_ (some 26) rfl rfl Try.func11 (by kernel_rfl) rfl #[.slice Ao34 t120.length co34, .int .i64 0, .int .i64 (wrap64 (1 + (Int.tmod (Go.bits .and .i64 a1 65535) 7)))] rfl (by (try simp only [List.map_toArray, List.map_cons, List.map_nil]); first | done | rfl | (simp only [List.length_drop, List.length_take]; rfl)) ?_; (with_reducible refine (octets_Uint.calls _ _ t120 0 (wrap64 (1 + (Int.tmod (Go.bits .and .i64 a1 65535) 7))) t123 t124 _ ?side1 ?side2 A6.out).mono ?_); (case side1 => repeat (first | exact (Kd.R_reads' HO122.out).2.2 | (with_reducible refine Kd.C_alloc ?_ _) | (with_reducible refine Kd.C_drewN ?_ _) | (with_reducible refine Kd.C_drew ?_))); (case side2 => exact (Kd.R_reads' HO122.out).2.1); rintro e w' ⟨rfl, ⟨nd, rfl⟩⟩; refine ⟨_, rfl, ?_⟩) | ((with_reducible refine gate_callee (f := 11) rfl ?_); refine goesL_ (some 34) rfl rfl Try.func11 (by kernel_rfl) rfl #[.slice Ao34 t120.length co34, .int .i64 (wrap64 (1 + (Int.tmod (Go.bits .and .i64 a1 65535) 7))), .int .i64 (wrap64 (8 - (wrap64 (1 + (Int.tmod (Go.bits .and .i64 a1 65535) 7)))))] rfl (by (try simp only [List.map_toArray, List.map_cons, List.map_nil]); first | done | rfl | (simp only [List.length_drop, List.length_take]; rfl)) ?_; (with_reducible refine (octets_Uint.calls _ _ t120 (wrap64 (1 + (Int.tmod (Go.bits .and .i64 a1 65535) 7))) (wrap64 (8 - (wrap64 (1 + (Int.tmod (Go.bits .and .i64 a1 65535) 7))))) t125 t126 _ ?side1 ?side2 A7.out).mono ?_); (case side1 => repeat (first | exact (Kd.R_reads' HO122.out).2.2 | (with_reducible refine Kd.C_alloc ?_ _) | (with_reducible refine Kd.C_drewN ?_ _) | (with_reducible refine Kd.C_drew ?_))); (case side2 => exact (Kd.R_reads' HO122.out).2.1); rintro e w' ⟨rfl, ⟨nd, rfl⟩⟩; refine ⟨_, rfl, ?_⟩) | ((with_reducible refine gate_callee (f := 11) rfl ?_); refine goesL_ (some 39) rfl rfl Try.func11 (by kernel_rfl) rfl #[.slice Ao34 t120.length co34, .int .i64 0, .int .i64 8] rfl (by (try simp only [List.map_toArray, List.map_cons, List.map_nil]); first | done | rfl | (simp only [List.length_drop, List.length_take]; rfl)) ?_; (with_reducible refine (octets_Uint.calls _ _ t120 0 8 t127 t128 _ ?side1 ?side2 A8.out).mono ?_); (case side1 => repeat (first | exact (Kd.R_reads' HO122.out).2.2 | (with_reducible refine Kd.C_alloc ?_ _) | (with_reducible refine Kd.C_drewN ?_ _) | (with_reducible refine Kd.C_drew ?_))); (case side2 => exact (Kd.R_reads' HO122.out).2.1); rintro e w' ⟨rfl, ⟨nd, rfl⟩⟩; refine ⟨_, rfl, ?_⟩))
      go_ret
      exact ⟨by first | rfl | (simp [errW_none, errW_some] <;> rfl) | (simp [*, errW_none, errW_some] <;> rfl), by repeat (first | (with_reducible first | exact HB.out | apply below_alloc | apply pw_below_drewN | apply below_drew1) | exact HB.out)⟩
  · rw [if_neg c5] at H
    have c5b0 : ((t120.length : Int) == 8) = false := beq_eq_false_iff_ne.mpr c5
    have c5b1 : ((t120.length : Int) != 8) = true := bne_iff_ne.mpr c5
    obtain rfl := Option.some.inj H
    go_enter Try.func6, Try.ntmps6
    go_wp2_with (first | ((with_reducible refine gate_callee (f := 7) rfl ?_); refine goesL_ (some 13) rfl rfl Try.func7 (by kernel_rfl) rfl #[] rfl (by (try simp only [List.map_toArray, List.map_cons, List.map_nil]); first | done | rfl | (simp only [List.length_drop, List.length_take]; rfl)) ?_; (with_reducible refine (longcaselaw04_shown.calls  t119 _ A3.out).mono ?_); rintro e w35 ⟨rfl, hb⟩; refine ⟨_, rfl, ?_⟩; have n0_ := Aside0.mk (below_step (by repeat (first | (with_reducible first | exact HB.out | apply below_alloc | apply pw_below_drewN | apply below_drew1) | exact HB.out)) hb); clear HB; have HB := n0_; clear n0_; (try clear hb); (try clear hb2); (try clear hk); (try clear hi)) | ((with_reducible refine gate_callee (f := 8) rfl ?_); refine goesL_ (some 19) rfl rfl Try.func8 (by kernel_rfl) rfl #[.slice none 0 0, .int .i64 8, .int .u64 a0] rfl (by (try simp only [List.map_toArray, List.map_cons, List.map_nil]); first | done | rfl | (simp only [List.length_drop, List.length_take]; rfl)) ?_; (refine (octets_Put.calls k _ _ ([] : List Int) 8 a0 t120 _ ?side1 ?side2 A4.out).mono ?_); (case side1 => exact Kd.C_nil _ _); (case side2 => exact Nat.le_refl _); rintro e w36 ⟨v121, rfl, ho0, hb⟩; refine ⟨_, rfl, ?_⟩; have n0_ := Aside0.mk (Kd.R_lower ho0 (below_size (by repeat (first | (with_reducible first | exact HB.out | apply below_alloc | apply pw_below_drewN | apply below_drew1) | exact HB.out)))); have n1_ := Aside0.mk (below_step (by repeat (first | (with_reducible first | exact HB.out | apply below_alloc | apply pw_below_drewN | apply below_drew1) | exact HB.out)) hb); clear HB; have HO122 := n0_; have HB := n1_; clear n0_ n1_; (try clear hb); (try clear hb2); (try clear hk); (try clear hi); (try clear ho0); obtain ⟨Ao37, co37, eo37⟩ := Kd.R_slice HO122.out; subst eo37))
    go_ret
    exact ⟨by first | rfl | (simp [errW_none, errW_some] <;> rfl) | (simp [*, errW_none, errW_some] <;> rfl), by repeat (first | (with_reducible first | exact HB.out | apply below_alloc | apply pw_below_drewN | apply below_drew1) | exact HB.out)⟩

/-- THE ONE PURE STATEMENT of longcaselaw04_OctetsParts: yours. -/
def longcaselaw04_OctetsParts.Pure : Prop := ∀ (a0 : Int) (a1 : Int), (Lit.int .u64 a0).wf = true → (Lit.int .i64 a1).wf = true → ∃ k, longcaselaw04_OctetsParts.f k a0 a1 = some true
theorem longcaselaw04_OctetsParts.walk (P : longcaselaw04_OctetsParts.Pure) (a0 : Int) (a1 : Int) (w : World) (w0 : (Lit.int .u64 a0).wf = true) (w1 : (Lit.int .i64 a1).wf = true) :
    Calls Try.prog 6 #[.int .u64 a0, .int .i64 a1] w fun e w' => e = .returned (.bool true) ∧ Below w.heap.size w w' := by
  obtain ⟨k, h⟩ := P a0 a1 w0 w1
  refine (longcaselaw04_OctetsParts.calls k a0 a1 true w h).mono ?_
  rintro e w' ⟨rfl, hd⟩
  exact ⟨rfl, hd⟩

end Go.Proofs.Ytgggjfclhjpboaa.POctB
