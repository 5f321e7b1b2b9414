/- The printed law holds; its walk as the card takes it; the tables as the program lays them. -/
import Derived.Test.YtpmcmkobpjobbaaDoorPPTx
import Derived.Test.YtpmcmkobpjobbaaDoorCkST
import Derived.Laws.Strings
import Derived.LaidMore
import Derived.SevenTiedAt
import Derived.Stop.Joined
import Derived.ChangeOld
import Derived.ProofKit
namespace Go.Proofs.YtpmcmkobpjobbaaDoor
open Go.RowKit Cv Stub Go.Proofs.YtpmcmkobpjobbaaDoorW.PrintWords Go.Proofs.YtpmcmkobpjobbaaDoorW.PrintLast Go.Proofs.YtpmcmkobpjobbaaDoorW.PrintMore
theorem tells_j (k : Nat) (t : Int) (h1 : -9223372036854775808 ≤ t) (h2 : t ≤ 9223372036854775807) : PPT.longcaselaw03_ClockTells.j0 (k + 1) t true false = some true := by
  rw [PPT.longcaselaw03_ClockTells.j0, if_neg (by decide), of_is t h1 h2, rof_is t h1 h2]
  by_cases h : oB t = true
  · rw [if_pos h, if_pos h]
    simp [E_is]
  · rw [if_neg h, if_neg h]
    simp [E_is]
theorem tells_f (k : Nat) (hk : 5000000009 ≤ k) (y m d H M S t : Int) (h1 : -9223372036854775808 ≤ t) (h2 : t ≤ 9223372036854775807) : PPT.longcaselaw03_ClockTells.f k y m d H M S t = some true := by
  obtain ⟨j, rfl⟩ : ∃ j, k = j + 1 := ⟨k - 1, by omega⟩
  have hj := tells_j j t h1 h2
  unfold PPT.longcaselaw03_ClockTells.f
  rw [show Stub.longcaselaw03_shown.f = some true from rfl, rright_is, right_is]
  by_cases h : cright y m d H M S = true
  · rw [sec_yes h, text_yes h, rsec_is h, rtext_is h, h]
    simp [hj]
  · have h' := Bool.eq_false_iff.mpr h
    rw [sec_no h', text_no h', h']
    simp [hj]
end Go.Proofs.YtpmcmkobpjobbaaDoor
namespace Go.Proofs.YtpmcmkobpjobbaaDoor.Hand
open Go.RowKit Cv
set_option linter.unusedVariables false
theorem tells_row (y m d H M S t : Int) (w : World) (w_y : (Lit.int .i64 y).wf = true) (w_m : (Lit.int .i64 m).wf = true) (w_d : (Lit.int .i64 d).wf = true) (w_H : (Lit.int .i64 H).wf = true) (w_M : (Lit.int .i64 M).wf = true) (w_S : (Lit.int .i64 S).wf = true) (w_t : (Lit.int .i64 t).wf = true) (hG : Glob w) :
    Calls Tryd.prog 3 #[.agg #[.int .i64 y, .int .i64 m, .int .i64 d, .int .i64 H, .int .i64 M, .int .i64 S], .int .i64 t] w fun e w' => e = .returned (.bool true) ∧ Below w.heap.size w w' :=
  PPT.longcaselaw03_ClockTells.calls 5000000009 y m d H M S t true w (tells_f _ (Nat.le_refl _) y m d H M S t (wf_bd w_t).1 (wf_bd w_t).2) hG
end Go.Proofs.YtpmcmkobpjobbaaDoor.Hand
/- The tables as the program lays them. -/
namespace Go.Proofs.YtpmcmkobpjobbaaDoor.Hand
open Go Go.ChangeShapes Go.WideShapes Go.ChangeAt Go.RowKit
theorem door_met (os : Os) (args : Array Value) : laidMetH Tryd.prog laidL ((World.doorLaid Tryd.prog 400 os).forCall (fun _ _ => 0) ⟨#[], args, []⟩).memory :=
  laidMetH_of_parts3 (fuel := 8) (laidMet_of_run' 8 (by kernel_rfl) (by kernel_rfl)) (by kernel_rfl) (by kernel_rfl)
end Go.Proofs.YtpmcmkobpjobbaaDoor.Hand
