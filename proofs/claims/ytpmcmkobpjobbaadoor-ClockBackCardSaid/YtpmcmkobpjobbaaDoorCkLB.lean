/- The printed law holds; its walk as the card takes it; the tables as the program lays them. -/
import Derived.Test.YtpmcmkobpjobbaaDoorPPBx
import Derived.Test.YtpmcmkobpjobbaaDoorCkS2
import Derived.Laws.Strings
import Derived.LaidMore
import Derived.SevenTiedAt
import Derived.Stop.Joined
import Derived.ChangeOld
import Derived.ProofKit
namespace Go.Proofs.YtpmcmkobpjobbaaDoor
open Go.RowKit Cv Stub Go.Proofs.YtpmcmkobpjobbaaDoorW.PrintWords Go.Proofs.YtpmcmkobpjobbaaDoorW.PrintLast Go.Proofs.YtpmcmkobpjobbaaDoorW.PrintMore
theorem back_j (k : Nat) (y m d H M S : Int) : PPB.longcaselaw03_ClockBack.j0 (k + 1) true y m d H M S = some true := by
  rw [PPB.longcaselaw03_ClockBack.j0, right_is]
  by_cases h : cright y m d H M S = true
  · have hb := csec_bd h
    obtain ⟨g0, g1, g2, g3, g4, g5, g6⟩ := right_of h rfl
    rw [sec_yes h, h]
    simp only [Option.bind_some, if_true]
    rw [of_is _ (by omega) (by omega), if_pos g0, g1, g2, g3, g4, g5, g6]
    simp
  · rw [Bool.eq_false_iff.mpr h]
    simp
theorem back_f (k : Nat) (hk : 9 ≤ k) (t y m d H M S : Int) (h1 : -9223372036854775808 ≤ t) (h2 : t ≤ 9223372036854775807) : PPB.longcaselaw03_ClockBack.f k t y m d H M S = some true := by
  obtain ⟨j, rfl⟩ : ∃ j, k = j + 1 := ⟨k - 1, by omega⟩
  have hj := back_j j y m d H M S
  unfold PPB.longcaselaw03_ClockBack.f
  rw [show Stub.longcaselaw03_shown.f = some true from rfl, of_is t h1 h2]
  by_cases h : oB t = true
  · obtain ⟨a, b⟩ := of_right h
    rw [if_pos h]
    simp only [Option.bind_some, if_true]
    rw [sec_yes a, b]
    simp [hj]
  · rw [if_neg h]
    simp [hj]
end Go.Proofs.YtpmcmkobpjobbaaDoor
namespace Go.Proofs.YtpmcmkobpjobbaaDoor.Hand
open Go.RowKit Cv
set_option linter.unusedVariables false
theorem back_row (t y m d H M S : Int) (w : World) (w_t : (Lit.int .i64 t).wf = true) (w_y : (Lit.int .i64 y).wf = true) (w_m : (Lit.int .i64 m).wf = true) (w_d : (Lit.int .i64 d).wf = true) (w_H : (Lit.int .i64 H).wf = true) (w_M : (Lit.int .i64 M).wf = true) (w_S : (Lit.int .i64 S).wf = true) (hG : Glob w) :
    Calls Tryd.prog 4 #[.int .i64 t, .agg #[.int .i64 y, .int .i64 m, .int .i64 d, .int .i64 H, .int .i64 M, .int .i64 S]] w fun e w' => e = .returned (.bool true) ∧ Below w.heap.size w w' :=
  PPB.longcaselaw03_ClockBack.calls 9 t y m d H M S true w (back_f _ (Nat.le_refl _) t y m d H M S (wf_bd w_t).1 (wf_bd w_t).2) hG
end Go.Proofs.YtpmcmkobpjobbaaDoor.Hand
/- The tables as the program lays them. -/
namespace Go.Proofs.YtpmcmkobpjobbaaDoor.Hand
open Go Go.ChangeShapes Go.WideShapes Go.ChangeAt Go.RowKit
theorem door_met (os : Os) (args : Array Value) : laidMetH Tryd.prog laidL ((World.doorLaid Tryd.prog 400 os).forCall (fun _ _ => 0) ⟨#[], args, []⟩).memory :=
  laidMetH_of_parts3 (fuel := 8) (laidMet_of_run' 8 (by kernel_rfl) (by kernel_rfl)) (by kernel_rfl) (by kernel_rfl)
end Go.Proofs.YtpmcmkobpjobbaaDoor.Hand
