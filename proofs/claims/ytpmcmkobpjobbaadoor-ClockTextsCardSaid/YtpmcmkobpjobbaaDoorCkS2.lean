/- The law's first question, answered: the small case works. -/
import Derived.Test.YtpmcmkobpjobbaaDoorPPSx
import Derived.Test.YtpmcmkobpjobbaaDoorCkS
namespace Go.Proofs.YtpmcmkobpjobbaaDoor
open Go.RowKit Cv Stub Go.Proofs.YtpmcmkobpjobbaaDoorW.PrintWords Go.Proofs.YtpmcmkobpjobbaaDoorW.PrintLast Go.Proofs.YtpmcmkobpjobbaaDoorW.PrintMore
theorem text_1969 : textL 1969 12 31 23 59 59 = [49, 57, 54, 57, 45, 49, 50, 45, 51, 49, 32, 50, 51, 58, 53, 57, 58, 53, 57] := by
  rw [text_tail (by decide +kernel), show (1969 : Int).natAbs = 1969 from rfl, pad4 1969 (by omega)]
  decide +kernel
theorem shown_f : PPS.longcaselaw03_shown.f = some true := by
  unfold PPS.longcaselaw03_shown.f
  have h1 : oB (-1) = true := by decide +kernel
  have h2 : oB 4611686018427387904 = false := by decide +kernel
  have o1 : oY (-1) = 1969 := by decide +kernel
  have o2 : oMo (-1) = 12 := by decide +kernel
  have o3 : oD (-1) = 31 := by decide +kernel
  have o4 : oH (-1) = 23 := by decide +kernel
  have o5 : oMi (-1) = 59 := by decide +kernel
  have o6 : oS (-1) = 59 := by decide +kernel
  have c1 : cright 1970 1 2 1 0 0 = true := by decide +kernel
  have c2 : cright 0 0 0 0 0 0 = false := by decide +kernel
  have c3 : cright 1969 12 31 23 59 59 = true := by decide +kernel
  have s1 : csec 1970 1 2 1 0 0 = 90000 := by decide +kernel
  rw [of_is _ (by omega) (by omega), of_is _ (by omega) (by omega), if_pos h1, if_neg (by rw [h2]; decide), o1, o2, o3, o4, o5, o6, sec_yes c1, sec_no c2, s1, text_no c2]
  simp only [Option.bind_some, if_true]
  rw [text_yes c3, text_1969, right_is, c3]
  simp only [Option.bind_some, ByteArray.toList_mk, if_true]
  rw [cmp_is]
  rfl
theorem o_bd {t : Int} (h : oB t = true) : 0 ≤ oH t ∧ oH t < 24 ∧ 0 ≤ oMi t ∧ oMi t < 60 ∧ 0 ≤ oS t ∧ oS t < 60 ∧ 1 ≤ oD t ∧ oD t ≤ 31 ∧ -70000000000000000 ≤ t ∧ t ≤ 70000000000000000 := by
  obtain ⟨a, b⟩ := of_right h
  have hb := csec_bd a
  obtain ⟨hr, h1, h2, h3, h4, h5, h6⟩ := cright_iff.mp a
  obtain ⟨r1, r2, r3, r4, r5, r6⟩ := right_m hr
  have hl := len_pos (oY t) (oMo t) r1 r2
  omega
end Go.Proofs.YtpmcmkobpjobbaaDoor
namespace Go.Proofs.YtpmcmkobpjobbaaDoor.Stub
open Go.RowKit Cv
open Hand (Glob)
def longcaselaw03_shown.f : Option Bool := some true
theorem longcaselaw03_shown.calls (r : Bool) (w : World) (h : longcaselaw03_shown.f = some r) : Glob w →
    Calls Tryd.prog 10 #[] w fun e w' => e = .returned (.bool r) ∧ Below w.heap.size w w' :=
  PPS.longcaselaw03_shown.calls r w (shown_f.trans h)
end Go.Proofs.YtpmcmkobpjobbaaDoor.Stub
namespace Go.Proofs.YtpmcmkobpjobbaaDoor.Hand
open Go.RowKit Cv
theorem wf_bd {n : Int} (h : (Lit.int .i64 n).wf = true) : -9223372036854775808 ≤ n ∧ n ≤ 9223372036854775807 := by
  have := bounds_i64 h
  omega
end Go.Proofs.YtpmcmkobpjobbaaDoor.Hand
