/- The contracts of the clock's functions in the printer's form, all in closed form. -/
import Derived.Test.YtpmcmkobpjobbaaDoorCkC
namespace Go.Proofs.YtpmcmkobpjobbaaDoor.Stub
open Go.RowKit Cv
open Hand (Glob)
def civil_Length.f := Hand.civil_Length.f
theorem civil_Length.calls : type_of% @Hand.civil_Length.calls := @Hand.civil_Length.calls
def clock_Right.f (y m d H M S : Int) : Option Bool := some (cright y m d H M S)
def clock_Seconds.f (y m d H M S : Int) : Option (Int × Int) := if cright y m d H M S = true then some (csec y m d H M S, 0) else some (0, 1)
def clock_Text.f (y m d H M S : Int) : Option ByteArray := some ⟨(if cright y m d H M S = true then textL y m d H M S else []).toArray⟩
def clock_Of.f (t : Int) : Option (Int × Int × Int × Int × Int × Int × Int) := if -9223372036854775808 ≤ t ∧ t ≤ 9223372036854775807 then (if oB t = true then some (oY t, oMo t, oD t, oH t, oMi t, oS t, 0) else some (0, 0, 0, 0, 0, 0, 2)) else none
def clock_Compare.f (y m d H M S y' m' d' H' M' S' : Int) : Option Int := some (cmpL [y, m, d, H, M, S] [y', m', d', H', M', S'])
theorem clock_Right.calls (y m d H M S : Int) (r : Bool) (w : World) (h : clock_Right.f y m d H M S = some r) : Glob w →
    Calls Tryd.prog 14 #[.agg #[.int .i64 y, .int .i64 m, .int .i64 d, .int .i64 H, .int .i64 M, .int .i64 S]] w fun e w' => e = .returned (.bool r) ∧ Below w.heap.size w w' := by
  intro hG
  obtain rfl := Option.some.inj h
  exact Hand.clock_Right.calls y m d H M S w hG
theorem clock_Seconds.calls (y m d H M S : Int) (r1 r2 : Int) (w : World) (h : clock_Seconds.f y m d H M S = some (r1, r2)) : Glob w →
    Calls Tryd.prog 12 #[.agg #[.int .i64 y, .int .i64 m, .int .i64 d, .int .i64 H, .int .i64 M, .int .i64 S]] w fun e w' => e = .returned (.tuple #[.int .i64 r1, .int .i64 r2]) ∧ Below w.heap.size w w' := by
  intro hG
  have h2 := Hand.clock_Seconds.calls y m d H M S w hG
  replace h : (if cright y m d H M S = true then some (csec y m d H M S, 0) else some (0, 1)) = some (r1, r2) := h
  by_cases hr : cright y m d H M S = true
  · rw [if_pos hr] at h
    rw [if_pos hr, if_pos hr] at h2
    obtain ⟨rfl, rfl⟩ := Prod.mk.inj (Option.some.inj h)
    exact h2
  · rw [if_neg hr] at h
    rw [if_neg hr, if_neg hr] at h2
    obtain ⟨rfl, rfl⟩ := Prod.mk.inj (Option.some.inj h)
    exact h2
theorem clock_Text.calls (y m d H M S : Int) (r : ByteArray) (w : World) (h : clock_Text.f y m d H M S = some r) : Glob w →
    Calls Tryd.prog 13 #[.agg #[.int .i64 y, .int .i64 m, .int .i64 d, .int .i64 H, .int .i64 M, .int .i64 S]] w fun e w' => e = .returned (.string r) ∧ Below w.heap.size w w' := by
  intro hG
  obtain rfl := Option.some.inj h
  exact Hand.clock_Text.calls y m d H M S w hG
theorem clock_Of.calls (t r1 r2 r3 r4 r5 r6 r7 : Int) (w : World) (h : clock_Of.f t = some (r1, r2, r3, r4, r5, r6, r7)) : Glob w →
    Calls Tryd.prog 17 #[.int .i64 t] w fun e w' => e = .returned (.tuple #[.agg #[.int .i64 r1, .int .i64 r2, .int .i64 r3, .int .i64 r4, .int .i64 r5, .int .i64 r6], .int .i64 r7]) ∧ Below w.heap.size w w' := by
  unfold clock_Of.f at h
  split at h
  · rename_i hb
    rw [← of_f t hb.1 hb.2] at h
    exact PPA.clock_Of.calls t r1 r2 r3 r4 r5 r6 r7 w h
  · cases h
theorem clock_Compare.calls (y m d H M S y' m' d' H' M' S' : Int) (r : Int) (w : World) (h : clock_Compare.f y m d H M S y' m' d' H' M' S' = some r) : Glob w →
    Calls Tryd.prog 20 #[.agg #[.int .i64 y, .int .i64 m, .int .i64 d, .int .i64 H, .int .i64 M, .int .i64 S], .agg #[.int .i64 y', .int .i64 m', .int .i64 d', .int .i64 H', .int .i64 M', .int .i64 S']] w fun e w' => e = .returned (.int .i64 r) ∧ Below w.heap.size w w' :=
  PPA.clock_Compare.calls 7 y m d H M S y' m' d' H' M' S' r w ((cmp6_f 7 (Nat.le_refl _) y m d H M S y' m' d' H' M' S').trans h)
theorem sec_yes {y m d H M S : Int} (h : cright y m d H M S = true) : Stub.clock_Seconds.f y m d H M S = some (csec y m d H M S, 0) := by
  show (if cright y m d H M S = true then some (csec y m d H M S, (0 : Int)) else some (0, 1)) = _
  rw [if_pos h]
theorem sec_no {y m d H M S : Int} (h : cright y m d H M S = false) : Stub.clock_Seconds.f y m d H M S = some (0, 1) := by
  show (if cright y m d H M S = true then some (csec y m d H M S, (0 : Int)) else some (0, 1)) = _
  rw [if_neg (by rw [h]; decide)]
theorem text_yes {y m d H M S : Int} (h : cright y m d H M S = true) : Stub.clock_Text.f y m d H M S = some ⟨(textL y m d H M S).toArray⟩ := by
  show some (ByteArray.mk (if cright y m d H M S = true then textL y m d H M S else []).toArray) = _
  rw [if_pos h]
theorem text_no {y m d H M S : Int} (h : cright y m d H M S = false) : Stub.clock_Text.f y m d H M S = some ⟨([] : List UInt8).toArray⟩ := by
  show some (ByteArray.mk (if cright y m d H M S = true then textL y m d H M S else []).toArray) = _
  rw [if_neg (by rw [h]; decide)]
theorem right_is (y m d H M S : Int) : Stub.clock_Right.f y m d H M S = some (cright y m d H M S) := rfl
theorem of_is (t : Int) (h1 : -9223372036854775808 ≤ t) (h2 : t ≤ 9223372036854775807) :
    Stub.clock_Of.f t = if oB t = true then some (oY t, oMo t, oD t, oH t, oMi t, oS t, 0) else some (0, 0, 0, 0, 0, 0, 2) := by
  unfold clock_Of.f
  rw [if_pos ⟨h1, h2⟩]
theorem cmp_is (y m d H M S y' m' d' H' M' S' : Int) : Stub.clock_Compare.f y m d H M S y' m' d' H' M' S' = some (cmpL [y, m, d, H, M, S] [y', m', d', H', M', S']) := rfl
end Go.Proofs.YtpmcmkobpjobbaaDoor.Stub
