/- The document's functions in the printer's form. -/
import Derived.Test.YtpmcmkobpjobbaaDoorCkRef
import Derived.Test.YtpmcmkobpjobbaaDoorCkS2
namespace Go.Proofs.YtpmcmkobpjobbaaDoor.Stub
open Go.RowKit Cv
open Hand (Glob)
def longcaseref03_Right.f (y m d H M S : Int) : Option Bool := some (cright y m d H M S)
def longcaseref03_Seconds.f (y m d H M S : Int) : Option Int := if cright y m d H M S = true then some (csec y m d H M S) else none
def longcaseref03_Text.f (y m d H M S : Int) : Option ByteArray := if cright y m d H M S = true then some ⟨(textL y m d H M S).toArray⟩ else none
def longcaseref03_Of.f (t : Int) : Option (Int × Int × Int × Int × Int × Int × Bool) := if -9223372036854775808 ≤ t ∧ t ≤ 9223372036854775807 then (if oB t = true then some (oY t, oMo t, oD t, oH t, oMi t, oS t, true) else some (0, 0, 0, 0, 0, 0, false)) else none
def longcaseref02_E.f (b : Bool) (e : Int) : Option Int := some (if b = true then 0 else e)
theorem longcaseref03_Right.calls (y m d H M S : Int) (r : Bool) (w : World) (h : longcaseref03_Right.f y m d H M S = some r) : Glob w →
    Calls Tryd.prog 11 #[.agg #[.int .i64 y, .int .i64 m, .int .i64 d, .int .i64 H, .int .i64 M, .int .i64 S]] w fun e w' => e = .returned (.bool r) ∧ Below w.heap.size w w' :=
  PPR.longcaseref03_Right.calls 1 y m d H M S r w ((rcright_f 0 y m d H M S).trans h)
theorem longcaseref03_Seconds.calls (y m d H M S : Int) (r : Int) (w : World) (h : longcaseref03_Seconds.f y m d H M S = some r) : Glob w →
    Calls Tryd.prog 15 #[.agg #[.int .i64 y, .int .i64 m, .int .i64 d, .int .i64 H, .int .i64 M, .int .i64 S]] w fun e w' => e = .returned (.int .i64 r) ∧ Below w.heap.size w w' := by
  unfold longcaseref03_Seconds.f at h
  split at h
  · rename_i hr
    exact PPR.longcaseref03_Seconds.calls 500 y m d H M S r w ((rsec_f 500 (Nat.le_refl _) hr).trans h)
  · cases h
theorem longcaseref03_Text.calls (y m d H M S : Int) (r : ByteArray) (w : World) (h : longcaseref03_Text.f y m d H M S = some r) : Glob w →
    Calls Tryd.prog 16 #[.agg #[.int .i64 y, .int .i64 m, .int .i64 d, .int .i64 H, .int .i64 M, .int .i64 S]] w fun e w' => e = .returned (.string r) ∧ Below w.heap.size w w' := by
  unfold longcaseref03_Text.f at h
  split at h
  · rename_i hr
    exact PPR.longcaseref03_Text.calls 5000000001 y m d H M S r w ((rtext_f _ (Nat.le_refl _) hr).trans h)
  · cases h
theorem longcaseref03_Of.calls (t r1 r2 r3 r4 r5 r6 : Int) (r7 : Bool) (w : World) (h : longcaseref03_Of.f t = some (r1, r2, r3, r4, r5, r6, r7)) : Glob w →
    Calls Tryd.prog 18 #[.int .i64 t] w fun e w' => e = .returned (.tuple #[.agg #[.int .i64 r1, .int .i64 r2, .int .i64 r3, .int .i64 r4, .int .i64 r5, .int .i64 r6], .bool r7]) ∧ Below w.heap.size w w' := by
  unfold longcaseref03_Of.f at h
  split at h
  · rename_i hb
    rw [← rof_f 1000 (Nat.le_refl _) t hb.1 hb.2] at h
    exact PPR.longcaseref03_Of.calls 1000 t r1 r2 r3 r4 r5 r6 r7 w h
  · cases h
theorem longcaseref02_E.calls (b : Bool) (e r : Int) (w : World) (h : longcaseref02_E.f b e = some r) : Glob w →
    Calls Tryd.prog 19 #[.bool b, .int .i64 e] w fun e w' => e = .returned (.int .i64 r) ∧ Go.Proofs.YtpmcmkobpjobbaaDoorW.PrintWords.Drawn0 w w' :=
  PPR.longcaseref02_E.calls b e r w ((E_f b e).trans h)
theorem rright_is (y m d H M S : Int) : Stub.longcaseref03_Right.f y m d H M S = some (cright y m d H M S) := rfl
theorem rsec_is {y m d H M S : Int} (h : cright y m d H M S = true) : Stub.longcaseref03_Seconds.f y m d H M S = some (csec y m d H M S) := by
  unfold longcaseref03_Seconds.f
  rw [if_pos h]
theorem rtext_is {y m d H M S : Int} (h : cright y m d H M S = true) : Stub.longcaseref03_Text.f y m d H M S = some ⟨(textL y m d H M S).toArray⟩ := by
  unfold longcaseref03_Text.f
  rw [if_pos h]
theorem rof_is (t : Int) (h1 : -9223372036854775808 ≤ t) (h2 : t ≤ 9223372036854775807) :
    Stub.longcaseref03_Of.f t = if oB t = true then some (oY t, oMo t, oD t, oH t, oMi t, oS t, true) else some (0, 0, 0, 0, 0, 0, false) := by
  unfold longcaseref03_Of.f
  rw [if_pos ⟨h1, h2⟩]
theorem E_is (b : Bool) (e : Int) : Stub.longcaseref02_E.f b e = some (if b = true then 0 else e) := rfl
end Go.Proofs.YtpmcmkobpjobbaaDoor.Stub
