/- The epochs' state in plain Lean, what each call makes of it, and the relation to memory. -/
import Derived.Test.YtfiehglbpcjkfaaProg
import Derived.Test.YtfiehglbpcjkfaaMapB
import Derived.Test.YtfiehglbpcjkfaaWMore
import Derived.Test.YtfiehglbpcjkfaaWLast
import Derived.Laws.LoneSync
import Derived.WalkKit
namespace Go.Proofs.Ytfiehglbpcjkfaa.Hand
open Go.Proofs Go Go.MapKept Go.RowKit Go.Proofs.YtfiehglbpcjkfaaW.PrintWords
structure St where
  cur : Int
  ep : Int
  pins : List (Int × Int)
  ret : List (Int × Int)
  ins : List (Int × Int)
  ever : List (Int × Bool)
def nget (l : List (Int × Int)) (k : Int) : Int := (lget l k).getD 0
def St.retire (s : St) (r : Int) : St := if 0 < r ∧ nget s.pins r = 0 then { s with ret := lput s.ret r s.ep } else s
def St.pub1 (t : St) (r : Int) : St := { t with ret := ldel t.ret r, ever := lput t.ever r true }
def St.publish (s : St) (r : Int) : St := if r < 1 then s else if r = s.cur then s else St.pub1 (St.retire { s with ep := s.ep + 1, cur := r } s.cur) r
def pubErr (r : Int) : Int := if r < 1 then 1 else 0
def St.enter (s : St) (k : Int) : St := if (lget s.ins k).isSome = true then s else { s with ins := lput s.ins k s.ep }
def St.leave (s : St) (k : Int) : St := { s with ins := ldel s.ins k }
def St.pin (s : St) : St := if s.cur = 0 then s else { s with pins := lput s.pins s.cur (nget s.pins s.cur + 1) }
def St.pinErr (s : St) : Int := if s.cur = 0 then 7 else 0
def St.unpin (s : St) (r : Int) : St :=
  if nget s.pins r = 0 then s else if 0 < nget s.pins r - 1 then { s with pins := lput s.pins r (nget s.pins r - 1) } else
  if r = s.cur then { s with pins := ldel (lput s.pins r (nget s.pins r - 1)) r } else
  St.retire { s with pins := ldel (lput s.pins r (nget s.pins r - 1)) r, ep := s.ep + 1 } r
def St.unpinErr (s : St) (r : Int) : Int := if nget s.pins r = 0 then 9 else 0
def held (ins : List (Int × Int)) (since : Int) : Bool := ins.any (fun p => decide (p.2 < since))
def St.freed (s : St) : List Int := ((s.ret.filter (fun p => !held s.ins p.2)).map (·.1)).mergeSort (fun x y => decide (x ≤ y))
def St.reclaim (s : St) : St := { s with ret := s.ret.filter (fun p => held s.ins p.2) }
def St.live (s : St) (r : Int) : Bool := (lget s.ret r).isSome || (decide (0 < nget s.pins r) || (decide (r = s.cur) && decide (0 < r)))
def St.lives (s : St) : List Int := ((s.ever.map (·.1)).mergeSort (fun x y => decide (x ≤ y))).filter s.live
def St.gone (s : St) (r : Int) : Bool := (lget s.ever r).getD false && !s.live r
def St.new : St := ⟨0, 0, [], [], [], []⟩
abbrev IM (w : World) (g : Nat) (l : List (Int × Int)) : Prop := MapB (Value.int .i64) (Value.int .i64) w g l
abbrev BM (w : World) (g : Nat) (l : List (Int × Bool)) : Prop := MapB (Value.int .i64) Value.bool w g l
/-- The epochs lie in the blocks H to H + 4. -/
structure Ep (w : World) (H : Nat) (s : St) : Prop where
  cells : w.heap[H + 4]? = some (.cells #[.int .i64 s.cur, .int .i64 s.ep, .map (some H), .map (some (H + 1)), .map (some (H + 2)), .map (some (H + 3))] 58 (0, 0))
  pins : IM w H s.pins
  ret : IM w (H + 1) s.ret
  ins : IM w (H + 2) s.ins
  ever : BM w (H + 3) s.ever
/-- Outside of the blocks H to H + 4 the world is as it was. -/
structure Fr (H : Nat) (w w' : World) : Prop where
  os : w'.os = w.os
  tape : w'.tape = w.tape
  output : w'.output = w.output
  size : w.heap.size ≤ w'.heap.size
  block : ∀ k, k < w.heap.size → (k < H ∨ H + 5 ≤ k) → w'.heap[k]? = w.heap[k]?
theorem Fr.refl (H : Nat) (w : World) : Fr H w w := ⟨rfl, rfl, rfl, Nat.le_refl _, fun _ _ _ => rfl⟩
theorem Fr.trans {H : Nat} {a b c : World} (h : Fr H a b) (k : Fr H b c) : Fr H a c :=
  ⟨k.os.trans h.os, k.tape.trans h.tape, k.output.trans h.output, Nat.le_trans h.size k.size, fun i hi ho => (k.block i (Nat.lt_of_lt_of_le hi h.size) ho).trans (h.block i hi ho)⟩
theorem Fr.grown {H g : Nat} {a b c : World} (h : Fr H a b) (k : b.grownBy c (some g)) (h1 : H ≤ g) (h2 : g < H + 5) : Fr H a c :=
  h.trans ⟨k.os, k.tape, k.output, k.size, fun i hi ho => k.block i hi (fun e => by cases e; omega)⟩
theorem Fr.grown0 {H : Nat} {a b c : World} (h : Fr H a b) (k : b.grownBy c none) : Fr H a c :=
  h.trans ⟨k.os, k.tape, k.output, k.size, fun i hi _ => k.block i hi (by simp)⟩
theorem Fr.setCell {H j : Nat} {a b : World} (h : Fr H a b) (v : Value) : Fr H a (b.setCell ⟨H + 4, j, none⟩ v) :=
  h.trans ⟨rfl, rfl, rfl, by simp [World.setCell], fun k _ ho => Below.heap_setCell _ _ _ _ (by simp; omega)⟩
theorem Fr.drew {H : Nat} {a b : World} (h : Fr H a b) : Fr H a b.drew := ⟨h.os, h.tape, h.output, h.size, h.block⟩
theorem Fr.drewN {H : Nat} {a b : World} (h : Fr H a b) (n : Nat) : Fr H a (b.drewN n) := ⟨h.os, h.tape, h.output, h.size, h.block⟩
theorem Fr.below {H : Nat} {a b : World} (h : Fr H a b) (hH : H ≤ a.heap.size) : Below H a b := ⟨h.os, h.tape, h.output, h.size, fun k hk => h.block k (by omega) (.inl hk)⟩
theorem Ep.lt {w : World} {H : Nat} {s : St} (h : Ep w H s) : H + 4 < w.heap.size := (Array.getElem?_eq_some_iff.1 h.cells).1
theorem Ep.keep {w w' : World} {H : Nat} {s : St} (h : Ep w H s) (k : ∀ j, H ≤ j → j < H + 5 → w'.heap[j]? = w.heap[j]?) : Ep w' H s :=
  ⟨(k _ (by omega) (by omega)).trans h.cells, h.pins.keep (k _ (by omega) (by omega)), h.ret.keep (k _ (by omega) (by omega)), h.ins.keep (k _ (by omega) (by omega)), h.ever.keep (k _ (by omega) (by omega))⟩
end Go.Proofs.Ytfiehglbpcjkfaa.Hand
