/- A row that a conversion of a string to bytes has made: read, stored into. -/
import Derived.Test.YtgggjfclhjpboaaShown
import Derived.Lib.ConvBytes
namespace Go.Proofs.Ytgggjfclhjpboaa.Hand
open Go.RowKit Go.Proofs.YtgggjfclhjpboaaW.PrintWords Go.Proofs.YtgggjfclhjpboaaW.PrintLast Go.Proofs.YtgggjfclhjpboaaW.PrintMore
/-- block g is a row of bytes, marked behind its end, that begins with xs -/
def MB (w : World) (g : Nat) (xs : List Int) : Prop :=
  ∃ cs : Array Value, w.heap[g]? = some (.cells cs 5 (cs.size, cs.size + 1)) ∧ xs.length ≤ cs.size ∧ ∀ i, i < xs.length → cs[i]? = some (.int .u8 (xs.getD i 0))
def sbytes (s : ByteArray) : List Int := s.data.toList.map fun b => (b.toNat : Int)
theorem sbytes_len (s : ByteArray) : (sbytes s).length = s.size := by
  unfold sbytes
  rw [List.length_map, Array.length_toList]
  rfl
theorem MB.made (w : World) (s : ByteArray) : MB (Lib.bytesWorld w 5 s) w.heap.size (sbytes s) := by
  refine ⟨_, Lib.bytesWorld_at_new w 5 s, ?_, fun i hi => ?_⟩
  · rw [sbytes_len]
    unfold Lib.bytesCells
    rw [Array.size_append, Array.size_map]
    exact Nat.le_add_right _ _
  · rw [sbytes_len] at hi
    have hi' : i < s.data.size := hi
    have h1 : s.data[i]? = some s.data[i] := Array.getElem?_eq_getElem hi'
    unfold Lib.bytesCells sbytes
    rw [Array.getElem?_append_left (by rw [Array.size_map]; exact hi'), Array.getElem?_map, h1, List.getD_eq_getElem?_getD, List.getElem?_map, Array.getElem?_toList, h1]
    rfl
theorem below_bytes {B : Nat} {w0 w : World} (h : Below B w0 w) (hB : B ≤ w.heap.size) (s : ByteArray) : Below B w0 (Lib.bytesWorld w 5 s) := by
  refine h.trans ⟨rfl, rfl, rfl, ?_, fun k hk => Lib.bytesWorld_at_old w _ s k (by omega)⟩
  rw [Lib.bytesWorld_size]; omega
theorem MB.cell {w : World} {g : Nat} {xs : List Int} (h : MB w g xs) (i : Nat) (hi : i < xs.length) : w.cell? ⟨g, i, none⟩ = some (.int .u8 (xs.getD i 0)) := by
  obtain ⟨cs, hb, hl, hc⟩ := h
  simp [World.cell?, hb, hc i hi]
theorem MB.free {w : World} {g : Nat} {xs : List Int} (h : MB w g xs) (i : Nat) (hi : i < xs.length) : w.frozen? ⟨g, i, none⟩ = false := by
  obtain ⟨cs, hb, hl, hc⟩ := h
  simp [World.frozen?, hb]
  omega
theorem MB.reads {w : World} {g : Nat} {xs : List Int} (h : MB w g xs) (hl : xs.length ≤ 9223372036854775807) : Kd.C (Kd.int .u8) w (some ⟨g, 0, none⟩) xs.length xs := by
  refine Kd.C_of_reads (enc := Value.int .u8) (d := (0 : Int)) (h1 := fun _ => rfl) ⟨rfl, hl, fun _ => ⟨_, rfl, fun j hj => ?_⟩⟩
  have ha : (⟨g, 0, none⟩ : Addr).add j = ⟨g, j, none⟩ := by unfold Addr.add; split <;> simp_all
  rw [ha]
  exact h.cell j hj
theorem MB.store {w : World} {g : Nat} {xs : List Int} (h : MB w g xs) (i : Nat) (hi : i < xs.length) (v : Int) : MB (w.setCell ⟨g, i, none⟩ (.int .u8 v)) g (xs.set i v) := by
  obtain ⟨cs, hb, hl, hc⟩ := h
  refine ⟨cs.setIfInBounds i (.int .u8 v), ?_, by simpa using hl, fun j hj => ?_⟩
  · show (w.heap.modify g _)[g]? = _
    have hg : g < w.heap.size := by
      rcases Nat.lt_or_ge g w.heap.size with h' | h'
      · exact h'
      · rw [Array.getElem?_eq_none h'] at hb; cases hb
    have hb2 : w.heap[g] = .cells cs 5 (cs.size, cs.size + 1) := by rw [Array.getElem?_eq_getElem hg] at hb; exact Option.some.inj hb
    rw [Array.getElem?_eq_getElem (by rw [Array.size_modify]; exact hg), Array.getElem_modify_self, hb2]
    simp
  · simp at hj
    by_cases hij : i = j
    · subst hij
      simp [Array.getElem?_setIfInBounds, List.getD_eq_getElem?_getD, hi]; omega
    · rw [Array.getElem?_setIfInBounds_ne hij, hc j hj]
      simp [List.getD_eq_getElem?_getD, List.getElem?_set_ne hij]
end Go.Proofs.Ytgggjfclhjpboaa.Hand
