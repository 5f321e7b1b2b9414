/- The printed law holds; its walk as the card takes it; the tables as the program lays them. -/
import Derived.Test.YtpmcmkobpjobbaaDoorPPNx
import Derived.Test.YtpmcmkobpjobbaaDoorCkS2
import Derived.Laws.Strings
import Derived.LaidMore
import Derived.SevenTiedAt
import Derived.Stop.Joined
import Derived.ChangeOld
import Derived.ProofKit
namespace Go.Proofs.YtpmcmkobpjobbaaDoor
open Go.RowKit Cv Stub Go.Proofs.YtpmcmkobpjobbaaDoorW.PrintWords Go.Proofs.YtpmcmkobpjobbaaDoorW.PrintLast Go.Proofs.YtpmcmkobpjobbaaDoorW.PrintMore
theorem next_j1 (k : Nat) (t : Int) (x1 x2 x3 x4 x5 x6 : Int) : PPN.longcaselaw03_ClockNext.j0 (k + 1) t true true x1 x2 x3 x4 x5 x6 = some true := by
  rw [PPN.longcaselaw03_ClockNext.j0, if_pos rfl]
theorem next_j (k : Nat) (t : Int) (h : oB t = true) (hl : ¬ (oY t = 2147483647 ∧ oMo t = 12 ∧ oD t = 31)) : PPN.longcaselaw03_ClockNext.j0 (k + 1) t true false (oY t) (oMo t) (oD t) (oH t) (oMi t) (oS t) = some true := by
  obtain ⟨b1, b2, b3, b4, b5, b6, b7, b8, b9, b10⟩ := o_bd h
  obtain ⟨g0, g⟩ := of_next h hl
  rw [PPN.longcaselaw03_ClockNext.j0, if_neg (by decide), w64 (n := t + 1) (by omega) (by omega), of_is _ (by omega) (by omega), if_pos g0]
  simp only [Option.bind_some, if_true]
  rw [w64 (n := oS t + 1) (by omega) (by omega), w64 (n := oMi t + 1) (by omega) (by omega), w64 (n := oH t + 1) (by omega) (by omega), w64 (n := oD t + 1) (by omega) (by omega)]
  rcases g with ⟨a, e1, e2, e3, e4, e5, e6⟩ | ⟨a, b, e1, e2, e3, e4, e5, e6⟩ | ⟨a, b, c, e1, e2, e3, e4, e5, e6⟩ | ⟨a, b, c, e4, e5, e6, e7⟩
  · rw [if_pos a, e1, e2, e3, e4, e5, e6]; simp
  · rw [if_neg a, if_pos b, e1, e2, e3, e4, e5, e6]; simp
  · rw [if_neg a, if_neg b, if_pos c, e1, e2, e3, e4, e5, e6]; simp
  · rw [if_neg a, if_neg b, if_neg c, e4, e5, e6]
    simp only [if_true]
    rcases e7 with e7 | e7
    · rw [if_pos e7]
    · split
      · rfl
      · rw [e7]; rfl
theorem next_f (k : Nat) (hk : 9 ≤ k) (t : Int) (h1 : -9223372036854775808 ≤ t) (h2 : t ≤ 9223372036854775807) : PPN.longcaselaw03_ClockNext.f k t = some true := by
  obtain ⟨j, rfl⟩ : ∃ j, k = j + 1 := ⟨k - 1, by omega⟩
  unfold PPN.longcaselaw03_ClockNext.f
  rw [show Stub.longcaselaw03_shown.f = some true from rfl, of_is t h1 h2]
  by_cases h : oB t = true
  · rw [if_pos h]
    simp only [Option.bind_some, if_true]
    by_cases a : oY t = 2147483647
    · rw [if_pos a]
      by_cases b : oMo t = 12
      · rw [if_pos b]
        by_cases c : oD t = 31
        · rw [show (oD t == 31) = true from beq_iff_eq.mpr c, next_j1]
        · rw [show (oD t == 31) = false from beq_eq_false_iff_ne.mpr c]
          exact next_j j t h (fun hh => c hh.2.2)
      · rw [if_neg b]
        exact next_j j t h (fun hh => b hh.2.1)
    · rw [if_neg a]
      exact next_j j t h (fun hh => a hh.1)
  · rw [if_neg h]
    simp [next_j1]
end Go.Proofs.YtpmcmkobpjobbaaDoor
namespace Go.Proofs.YtpmcmkobpjobbaaDoor.Hand
open Go.RowKit Cv
set_option linter.unusedVariables false
theorem next_row (t : Int) (w : World) (w_t : (Lit.int .i64 t).wf = true) (hG : Glob w) :
    Calls Tryd.prog 6 #[.int .i64 t] w fun e w' => e = .returned (.bool true) ∧ Below w.heap.size w w' :=
  PPN.longcaselaw03_ClockNext.calls 9 t true w (next_f _ (Nat.le_refl _) t (wf_bd w_t).1 (wf_bd w_t).2) hG
end Go.Proofs.YtpmcmkobpjobbaaDoor.Hand
/- The tables as the program lays them. -/
namespace Go.Proofs.YtpmcmkobpjobbaaDoor.Hand
open Go Go.ChangeShapes Go.WideShapes Go.ChangeAt Go.RowKit
theorem door_met (os : Os) (args : Array Value) : laidMetH Tryd.prog laidL ((World.doorLaid Tryd.prog 400 os).forCall (fun _ _ => 0) ⟨#[], args, []⟩).memory :=
  laidMetH_of_parts3 (fuel := 8) (laidMet_of_run' 8 (by kernel_rfl) (by kernel_rfl)) (by kernel_rfl) (by kernel_rfl)
end Go.Proofs.YtpmcmkobpjobbaaDoor.Hand
