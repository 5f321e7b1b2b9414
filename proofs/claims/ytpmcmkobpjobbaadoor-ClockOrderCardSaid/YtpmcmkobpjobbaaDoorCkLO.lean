/- The printed law holds; its walk as the card takes it; the tables as the program lays them. -/
import Derived.Test.YtpmcmkobpjobbaaDoorPPOx
import Derived.Test.YtpmcmkobpjobbaaDoorCkSO
import Derived.Laws.Strings
import Derived.LaidMore
import Derived.SevenTiedAt
import Derived.Stop.Joined
import Derived.ChangeOld
import Derived.ProofKit
namespace Go.Proofs.YtpmcmkobpjobbaaDoor
open Go.RowKit Cv Stub Go.Proofs.YtpmcmkobpjobbaaDoorW.PrintWords Go.Proofs.YtpmcmkobpjobbaaDoorW.PrintLast Go.Proofs.YtpmcmkobpjobbaaDoorW.PrintMore
theorem order_j (k : Nat) (t u : Int) (ht : oB t = true) (hu : oB u = true) : PPO.longcaselaw03_ClockOrder.j0 (k + 1) t u true false (oY t) (oMo t) (oD t) (oH t) (oMi t) (oS t) (oY u) (oMo u) (oD u) (oH u) (oMi u) (oS u) = some true := by
  have hc := of_inj ht hu
  have hx := of_text ht hu
  rw [PPO.longcaselaw03_ClockOrder.j0, cmp_is, text_yes (of_right ht).1, text_yes (of_right hu).1, hc]
  have he : ((textL (oY t) (oMo t) (oD t) (oH t) (oMi t) (oS t) == textL (oY u) (oMo u) (oD u) (oH u) (oMi u) (oS u)) == (t == u)) = true := by
    by_cases h : t = u
    · rw [beq_iff_eq, beq_iff_eq.mpr h, beq_iff_eq.mpr (hx.mpr h)]
    · rw [beq_iff_eq, beq_eq_false_iff_ne.mpr h, beq_eq_false_iff_ne.mpr (fun hh => h (hx.mp hh))]
  by_cases a : t < u
  · simp [a, he]
  · by_cases b : t > u
    · simp [a, b, he]
    · simp [a, b, he]
theorem order_j2 (k : Nat) (t u : Int) (x1 x2 x3 x4 x5 x6 x7 x8 x9 x10 x11 x12 : Int) : PPO.longcaselaw03_ClockOrder.j0 (k + 1) t u true true x1 x2 x3 x4 x5 x6 x7 x8 x9 x10 x11 x12 = some true := by
  rw [PPO.longcaselaw03_ClockOrder.j0, if_pos rfl]
theorem order_f (k : Nat) (hk : 9 ≤ k) (y m d H M S y' m' d' H' M' S' t u : Int) (h1 : -9223372036854775808 ≤ t) (h2 : t ≤ 9223372036854775807) (h3 : -9223372036854775808 ≤ u) (h4 : u ≤ 9223372036854775807) :
    PPO.longcaselaw03_ClockOrder.f k y m d H M S y' m' d' H' M' S' t u = some true := by
  obtain ⟨j, rfl⟩ : ∃ j, k = j + 1 := ⟨k - 1, by omega⟩
  unfold PPO.longcaselaw03_ClockOrder.f
  rw [show Stub.longcaselaw03_shown.f = some true from rfl, cmp_is, rcmp_is, of_is t h1 h2, of_is u h3 h4]
  simp only [Option.bind_some, if_true]
  by_cases a : oB t = true
  · by_cases b : oB u = true
    · have hj := order_j j t u a b
      rw [if_pos a, if_pos b]
      simp [hj]
    · rw [if_pos a, if_neg b]
      simp [order_j2]
  · rw [if_neg a]
    split <;> simp [order_j2]
end Go.Proofs.YtpmcmkobpjobbaaDoor
namespace Go.Proofs.YtpmcmkobpjobbaaDoor.Hand
open Go.RowKit Cv
set_option linter.unusedVariables false
theorem order_row (y m d H M S y' m' d' H' M' S' t u : Int) (w : World) (w_y : (Lit.int .i64 y).wf = true) (w_m : (Lit.int .i64 m).wf = true) (w_d : (Lit.int .i64 d).wf = true) (w_H : (Lit.int .i64 H).wf = true) (w_M : (Lit.int .i64 M).wf = true) (w_S : (Lit.int .i64 S).wf = true) (w_y' : (Lit.int .i64 y').wf = true) (w_m' : (Lit.int .i64 m').wf = true) (w_d' : (Lit.int .i64 d').wf = true) (w_H' : (Lit.int .i64 H').wf = true) (w_M' : (Lit.int .i64 M').wf = true) (w_S' : (Lit.int .i64 S').wf = true) (w_t : (Lit.int .i64 t).wf = true) (w_u : (Lit.int .i64 u).wf = true) (hG : Glob w) :
    Calls Tryd.prog 5 #[.agg #[.int .i64 y, .int .i64 m, .int .i64 d, .int .i64 H, .int .i64 M, .int .i64 S], .agg #[.int .i64 y', .int .i64 m', .int .i64 d', .int .i64 H', .int .i64 M', .int .i64 S'], .int .i64 t, .int .i64 u] w fun e w' => e = .returned (.bool true) ∧ Below w.heap.size w w' :=
  PPO.longcaselaw03_ClockOrder.calls 9 y m d H M S y' m' d' H' M' S' t u true w (order_f _ (Nat.le_refl _) y m d H M S y' m' d' H' M' S' t u (wf_bd w_t).1 (wf_bd w_t).2 (wf_bd w_u).1 (wf_bd w_u).2) hG
end Go.Proofs.YtpmcmkobpjobbaaDoor.Hand
/- The tables as the program lays them. -/
namespace Go.Proofs.YtpmcmkobpjobbaaDoor.Hand
open Go Go.ChangeShapes Go.WideShapes Go.ChangeAt Go.RowKit
theorem door_met (os : Os) (args : Array Value) : laidMetH Tryd.prog laidL ((World.doorLaid Tryd.prog 400 os).forCall (fun _ _ => 0) ⟨#[], args, []⟩).memory :=
  laidMetH_of_parts3 (fuel := 8) (laidMet_of_run' 8 (by kernel_rfl) (by kernel_rfl)) (by kernel_rfl) (by kernel_rfl)
end Go.Proofs.YtpmcmkobpjobbaaDoor.Hand
