/- Two words for a constant's bytes: the row that '[]byte("..")' lays, and an append to it. -/
import Derived.Test.YtgaibighfmcgoaaWMore
import Derived.Lib.SmallJoins
import Derived.ArgAppend
namespace Go.Proofs.Ytgaibighfmcgoaa.Hand
open Go.RowKit Go.Proofs.YtgaibighfmcgoaaW.PrintWords Go.Proofs.YtgaibighfmcgoaaW.PrintLast Go.Proofs.YtgaibighfmcgoaaW.PrintMore
section
variable {P : Program} {ops : Array Oper} {rest : List Oper} {o o2 : Oper} {a : Act} {Q : Exit → Act → World → Prop}
theorem heap_fresh (w : World) (x : Obj) : (w.alloc x).heap[w.heap.size]? = some x := by
  show (w.heap.push x)[w.heap.size]? = _
  simp
theorem C_marked {W : World} {b : Nat} {C : Array Value} {e : TypeId} {fr : Nat × Nat} {xs : List Int} (h : W.heap[b]? = some (.cells C e fr)) (hc : C.toList = xs.map (Value.int .u8)) (hl : xs.length ≤ 9223372036854775807) :
    Kd.C (Kd.int .u8) W (some ⟨b, 0, none⟩) xs.length xs := by
  refine Kd.C_of_reads (enc := Value.int .u8) (d := (0 : Int)) (h1 := fun _ => rfl) ⟨rfl, hl, fun _ => ⟨_, rfl, fun j hj => ?_⟩⟩
  have hCj : C[j]? = some (.int .u8 (xs.getD j 0)) := by
    rw [← Array.getElem?_toList, hc, List.getElem?_map, List.getElem?_eq_getElem hj]
    simp [List.getD_eq_getElem?_getD, List.getElem?_eq_getElem hj]
  have ha : (⟨b, 0, none⟩ : Addr).add j = ⟨b, j, none⟩ := by unfold Addr.add; split <;> simp_all
  rw [ha]
  simp [World.cell?, h, hCj]
/-- the literal's row, and the conversion that marks it: both at once -/
theorem R_lit_marked {W : World} (t e : TypeId) (hgd : o.guard = none) (hgd2 : o2.guard = none) {N : Tmp} (ho2 : o2.op = .convert t t (.tmp N)) (ht : P.underlying t = some (.slice e)) (he : P.underlying e = some (.int .u8))
    {n : Nat} {inner : List Value} (hev : ∀ v, (a.put o.dst v).eval (.tmp N) = v)
    (hrun : (execOp a.eval o).run P W = .ok (.value (.slice (some ⟨W.heap.size, 0, none⟩) n n)) (W.alloc (.cells inner.toArray e)))
    (h : ∀ g w1, g = W.heap.size → w1.heap[g]? = some (.cells inner.toArray e (inner.length, inner.length + 1)) → Below W.heap.size W w1 → wpList P ops Q rest ((a.put o.dst (.slice (some ⟨g, 0, none⟩) n n)).put o2.dst (.slice (some ⟨g, 0, none⟩) n n)) w1) :
    wpList P ops Q (o :: o2 :: rest) a W := by
  refine Kd.event_run hgd hrun ?_
  refine Kd.event_run (w1 := W.alloc (.cells inner.toArray e (inner.length, inner.length + 1))) (v := .slice (some ⟨W.heap.size, 0, none⟩) n n) hgd2 ?_ ?_
  · have hc := Lib.run_convert_bytes_const (P := P) W t e inner.toArray n n ht he
    rw [List.size_toArray] at hc
    simp [execOp, ho2, hev]
    refine (congrArg (fun r : Result Value => r.andThen fun v w => .ok (Next.value v) w) hc).trans ?_
    rfl
  · exact h _ _ rfl (heap_fresh _ _) (below_alloc (Below.refl _ _) _)
/-- an append of one byte to a row of bytes that is full (such a marked one): a new row -/
theorem R_append_marked {w0 W : World} (base : Nat) (hgd : o.guard = none) (s x : Operand) (t e : TypeId) (ho : o.op = .call { callee := .builtin .append, args := #[s, x], argTypes := #[t, t] })
    (ht : P.underlying t = some (.slice e)) (hinfo : (P.info? e).map (fun i => (i.zero, i.size, i.bytes)) = some (some (.int .u8 0), 1, 1))
    (g : Nat) {C : Array Value} {q : TypeId} {fr : Nat × Nat} (xs : List Int) (p : Int) (hs : a.eval s = .slice (some ⟨g, 0, none⟩) xs.length xs.length) (hx : a.eval x = .slice (some ⟨W.heap.size, 0, none⟩) 1 1)
    (hblk : W.heap[g]? = some (.cells C q fr)) (hC : C.toList = xs.map (Value.int .u8)) (HB : Below base w0 W) (hbase : base ≤ W.heap.size) (hl : xs.length + 1 ≤ 140737488355328)
    (h : ∀ v1 w1, Kd.R (Kd.int .u8) e w1 base (fun _ => True) v1 (xs ++ [p]) → Below base w0 w1 → W.grownBy w1 none → wpList P ops Q rest (a.put o.dst v1) w1) :
    wpList P ops Q (o :: rest) a (W.alloc (.cells #[.int .u8 p] e)) := by
  have hg : g < W.heap.size := by
    rcases Nat.lt_or_ge g W.heap.size with h' | h'
    · exact h'
    · rw [Array.getElem?_eq_none h'] at hblk; cases hblk
  have hblk' : (W.alloc (.cells #[.int .u8 p] e)).heap[g]? = some (.cells C q fr) := by
    show (W.heap.push _)[g]? = _
    rw [Array.getElem?_push_lt hg, ← Array.getElem?_eq_getElem hg, hblk]
  have hadd : ∀ (b j : Nat), (⟨b, 0, none⟩ : Addr).add j = ⟨b, j, none⟩ := fun b j => by unfold Addr.add; split <;> simp_all
  obtain ⟨i0, hi, hzz⟩ := Option.map_eq_some_iff.1 hinfo
  simp only [Prod.mk.injEq] at hzz
  obtain ⟨hz0, hz1, hz2⟩ := hzz
  refine wpList_append_grows (W.alloc (.cells #[.int .u8 p] e)) hgd s x t ho e i0 (.int .u8 0) 1 1 ht hi hz0 hz1 hz2 rfl (by decide)
    (some ⟨g, 0, none⟩) xs.length xs.length (xs.map (Value.int .u8)) hs (fun h => by cases h) (by simp) ?_ ⟨W.heap.size, 0, none⟩ 1 1 [.int .u8 p] hx rfl ?_ (by simp [Value.oneCell']) (by omega) (by unfold maxLen; omega) (by omega) ?_
  · intro b hb j u hj
    cases hb
    rw [hadd]
    simp only [World.cell?, hblk', ← hC] at hj ⊢
    simpa using hj
  · intro j u hj
    rw [hadd]
    have h2 := heap_fresh W (.cells #[.int .u8 p] e)
    simp only [World.cell?, h2]
    rw [← Array.getElem?_toList]
    simpa using hj
  · intro v1 w1 hown hgr
    have hsz : W.heap.size ≤ (W.alloc (.cells #[.int .u8 p] e)).heap.size := by
      show _ ≤ (W.heap.push _).size
      rw [Array.size_push]; omega
    have hown' : w1.ownsRow base e 1 v1 (xs ++ [p]).length (encs (Value.int .u8) (xs ++ [p])) := by
      have := own_weaken hown (Nat.le_trans hbase hsz)
      simpa [encs] using this
    have hgr2 : W.grownBy w1 none := by
      have h1 := World.grownBy_alloc W (.cells #[.int .u8 p] e) none
      exact ⟨hgr.os.trans h1.os, hgr.tape.trans h1.tape, hgr.output.trans h1.output, Nat.le_trans h1.size hgr.size, fun k hk hne => (hgr.block k (Nat.lt_of_lt_of_le hk h1.size) hne).trans (h1.block k hk hne)⟩
    exact h v1 w1 (Kd.R_of_own hown' (fun _ _ => trivial)) (HB.grown hgr2 hbase (fun k hk => by cases hk)) hgr2
end
end Go.Proofs.Ytgaibighfmcgoaa.Hand
