/- Live: the keys of a map, sorted, those kept that are live. -/
import Derived.Test.YtfiehglbpcjkfaaEpB
import Derived.Test.YtfiehglbpcjkfaaShelf
namespace Go.Proofs.Ytfiehglbpcjkfaa.Hand
open Go.Proofs Go Go.MapKept Go.RowKit Go.Shelf Go.Sort Go.Maps Go.Lib Go.Proofs.YtfiehglbpcjkfaaW.PrintWords Go.Proofs.YtfiehglbpcjkfaaW.PrintLast Go.Proofs.YtfiehglbpcjkfaaW.PrintMore
set_option linter.unusedSectionVars false
set_option linter.unusedVariables false
set_option linter.unusedSimpArgs false
theorem insert_perm {H : Type} (x : Lit × DataW H) : ∀ l : List (Lit × DataW H), (DataW.insert x l).Perm (x :: l)
  | [] => List.Perm.refl _
  | y :: r => by
    unfold DataW.insert
    split
    · exact List.Perm.refl _
    · exact ((insert_perm x r).cons y).trans (List.Perm.swap x y r)
theorem sorted_perm {H : Type} : ∀ l : List (Lit × DataW H), (l.foldr DataW.insert []).Perm l
  | [] => List.Perm.refl _
  | x :: r => (insert_perm x _).trans ((sorted_perm r).cons x)
/-- A map of ours with int keys, as the shelf's contracts want it. -/
theorem MapB.owns {P : Program} {kt : TypeId} {β : Type} {ev : β → Value} {w : World} {g : Nat} {l : List (Int × β)} (h : MapB (Value.int .i64) ev w g l) (hk : P.underlying kt = some (.int .i64)) (hw : ∀ p ∈ l, (Lit.int .i64 p.1).wf = true) (hm : l.length ≤ maxLen) :
    ∃ D : DataW Unit, w.ownsMap P kt (fun _ => some (.nil, [])) g l.length D ∧ (intKeys D).Perm (l.map (·.1)) ∧ Maps.size D = l.length := by
  obtain ⟨es, clock, hb, hs, he⟩ := h
  have hlen : es.toList.length = l.length := by have := congrArg List.length he; simpa using this
  have hmem : ∀ x ∈ es.toList, ∃ p ∈ l, x.key = .int .i64 p.1 := by
    intro x hx
    have : (x.key, x.val) ∈ l.map (fun p => (Value.int .i64 p.1, ev p.2)) := by rw [← he]; exact List.mem_map.2 ⟨x, hx, rfl⟩
    obtain ⟨p, hp, hp2⟩ := List.mem_map.1 this
    exact ⟨p, hp, (Prod.mk.inj hp2).1.symm⟩
  have hrd : ∀ x ∈ es.toList, ∀ p : Int × β, (Lit.int .i64 p.1).wf = true → x.key = .int .i64 p.1 → Go.WideElems.rd P kt (fun _ => some ((.nil : DataW Unit), [])) x = some (.int .i64 p.1, .nil) := by
    intro x _ p hp hx
    unfold Go.WideElems.rd
    rw [hx, keyOf_int_mk hk hp]
    rfl
  have hrg : es.toList.map (Go.WideElems.rg P kt (fun _ => some ((.nil : DataW Unit), []))) = l.map (fun p => (Lit.int .i64 p.1, (.nil : DataW Unit))) := by
    apply List.ext_getElem (by simpa using hlen)
    intro i h1 h2
    simp only [List.length_map] at h1 h2
    rw [List.getElem_map, List.getElem_map]
    have e1 : (es.toList[i].key, es.toList[i].val) = (Value.int .i64 l[i].1, ev l[i].2) := by
      have a1 : (es.toList.map (fun e => (e.key, e.val)))[i]? = some (es.toList[i].key, es.toList[i].val) := by rw [List.getElem?_map, List.getElem?_eq_getElem h1]; rfl
      have a2 : (l.map (fun p => (Value.int .i64 p.1, ev p.2)))[i]? = some (Value.int .i64 l[i].1, ev l[i].2) := by rw [List.getElem?_map, List.getElem?_eq_getElem h2]; rfl
      rw [he, a2] at a1
      exact (Option.some.inj a1).symm
    unfold Go.WideElems.rg
    rw [hrd es.toList[i] (List.getElem_mem h1) l[i] (hw _ (List.getElem_mem h2)) (Prod.mk.inj e1).1]
    rfl
  refine ⟨_, ⟨es, clock, hb, ⟨by rw [← Array.length_toList, hlen]; exact hm, hs, fun x hx => ?_⟩, by rw [← Array.length_toList, hlen]; exact Nat.le_refl _, rfl⟩, ?_, ?_⟩
  · obtain ⟨p, hp, hx2⟩ := hmem x hx
    exact ⟨_, hrd x hx p (hw p hp) hx2⟩
  · rw [hrg]
    show List.Perm (List.map (fun p : Lit × DataW Unit => Go.intOf p.1) _) _
    refine ((sorted_perm _).map _).trans ?_
    rw [List.map_map]
    exact List.Perm.refl _
  · rw [hrg]
    show List.length _ = _
    rw [(sorted_perm _).length_eq, List.length_map]
theorem sort_c (m : Nat) : AnyZI.SortsIn Try.prog Try.sortedA_ren Fence.wide m :=
  ⟨fun blk off cap ss W hH hblk hsz => callsIn_wide.2 (AnyM.slices_Sort_int Try.sortA blk off cap ss W hH hblk hsz),
   fun p cap W => callsIn_wide.2 (AnyM.slices_Sort_int_none Try.sortA p cap W)⟩
theorem keys_c (mb : Option Nat) (W : World) : Calls Try.prog 38 #[.map mb] W fun e w' => e = .returned (.func (.func 48) #[] #[.pointer (some ⟨W.heap.size, 0, none⟩)]) ∧ w' = W.alloc (.cells #[.map mb] 51) :=
  (callsIn_wide (n := 5)).1 (AnyZI.keys_in Try.keysA Fence.wide 5 trivial rfl mb W)
theorem sorted_c {w : World} {Bm g : Nat} {l : List (Int × Bool)} (h : BM w g l) (hm : w.cell? ⟨Bm, 0, none⟩ = some (.map (some g))) (hBm : Bm < w.heap.size) (hw : ∀ p ∈ l, (Lit.int .i64 p.1).wf = true) (hl : l.length ≤ 1000000) :
    Calls Try.prog 37 #[.func (.func 48) #[] #[.pointer (some ⟨Bm, 0, none⟩)]] w fun e w' => ∃ v, e = .returned v ∧ w'.ownsRow w.heap.size 3 1 v l.length (nums .i64 ((l.map (·.1)).mergeSort (fun x y => decide (x ≤ y)))) ∧ (v = .slice none 0 0 ↔ l = []) ∧ Below w.heap.size w w' := by
  obtain ⟨D, hown, hp, hsz⟩ := h.owns (P := Try.prog) (kt := 3) Try.underlying3 hw (by unfold maxLen; omega)
  have hseq : SeqGives Fence.wide 2 Try.prog 48 #[.pointer (some ⟨Bm, 0, none⟩)] encZ (fun ss => ss.Perm (intKeys D)) (Maps.size D) w :=
    AnyZI.keys_gives (ρ := Try.keysA_ren) { Try.keysA with } Fence.wide _ trivial rfl (by omega) Bm g l.length D w hBm hm hown
  have cS := AnyZI.sorted_in Try.sortedA Fence.wide 5 trivial trivial trivial trivial rfl (by omega) (sort_c _) (enters_of Try.func33 (by kernel_rfl) rfl) 48 #[.pointer (some ⟨Bm, 0, none⟩)] trivial (enters_of Try.func48 (by kernel_rfl) rfl) _ _ (by rw [hsz]; unfold maxLen; omega) (by rw [hsz]; omega) _ hseq
  refine ((callsIn_wide (n := 5)).1 cS).mono ?_
  rintro e w' ⟨v, ss, rfl, hS, hrow, hnil, hb⟩
  have hS2 := hS.trans hp
  have hlen : ss.length = l.length := by rw [hS2.length_eq, List.length_map]
  refine ⟨v, rfl, ?_, ?_, hb⟩
  · have := hrow
    rw [hlen, mergeSort_of_perm_i hS2] at this
    exact this
  · rw [hnil]
    constructor
    · intro e
      exact List.eq_nil_of_length_eq_zero (by rw [← hlen, e]; rfl)
    · intro e
      exact List.eq_nil_of_length_eq_zero (by rw [hlen, e]; rfl)
section
variable {w : World} {H B : Nat} {s : St}
theorem live1_c (he : Ep w H s) (hB : w.cell? ⟨B, 0, none⟩ = some (.pointer (some ⟨H + 4, 0, none⟩))) (x : Int) :
    Calls Try.prog 39 #[.int .i64 x, .pointer (some ⟨B, 0, none⟩)] w fun e w' => e = .returned (.bool (!s.live x)) ∧ w' = w := by
  have hC := Aside0.mk he
  clear he
  generalize hq : s.live x = q
  have hq := Aside0.mk hq
  go_enter Try.func39, Try.ntmps39
  go_wp2_with (first
    | (go_at_call 40; refine (live_c hC.out x).mono ?_; rintro e w' ⟨rfl, rfl⟩; rw [hq.out]))
  all_goals (go_ret; exact ⟨by simp, rfl⟩)
theorem deleteNil_c (fv : Value) (c : Nat) (w : World) : Calls Try.prog 36 #[.slice none 0 c, fv] w fun e w' => e = .returned (.slice none 0 c) ∧ w' = w := by
  have hc := AnyE.slices_IndexFunc_empty Try.l6 none c fv w
  change Calls Try.prog 46 _ _ _ at hc
  go_enter Try.func36, Try.ntmps36
  go_wp2_with (first
    | (go_at_call 46; refine hc.mono ?_; rintro e w' ⟨rfl, rfl⟩))
  go_ret
  exact ⟨rfl, rfl⟩
theorem own_cut {w : World} {base blk cap n q : Nat} {e : TypeId} {L T Z : List Int} (h : w.ownsRow base e 1 (.slice (some ⟨blk, 0, none⟩) n cap) n (nums .i64 L)) (hz : (T ++ Z).length = n) :
    (putRow encZ (Sort.ahead w q) blk 0 (T ++ Z).toArray).ownsRow base e 1 (.slice (some ⟨blk, 0, none⟩) T.length cap) T.length (nums .i64 T) := by
  rcases h.2 with ⟨h0, _⟩ | ⟨g', cap', cur, hv, hg, hb, hn, hcap, hsz, ht⟩
  · cases h0
  cases hv
  have hT : T.length ≤ n := by rw [← hz, List.length_append]; omega
  have hb2 := heap_sorted_i (n := q) (os := #[]) (T ++ Z).toArray hb
  rw [grow_empty] at hb2
  have ht2 := take_putCells_i cur (T ++ Z) (by omega)
  refine ⟨by simp [nums], .inr ⟨blk, cap, _, rfl, hg, hb2, by omega, hcap, by simp [putCells, hsz], ?_⟩⟩
  have := congrArg (List.take T.length) ht2
  rw [List.take_take, show min T.length (T ++ Z).length = T.length by rw [List.length_append]; omega] at this
  rw [Nat.mul_one, this, List.map_append, List.take_left' (by simp)]
  rfl
theorem putRow_below {w : World} {base blk q : Nat} (d : Array Int) (hb : base ≤ blk) : Below base w (putRow encZ (Sort.ahead w q) blk 0 d) := by
  have := grownBy_sorted_i (w := w) (g := blk) (n := q) (os := #[]) d
  rw [grow_empty] at this
  exact ⟨this.os, this.tape, this.output, this.size, fun k hk => by
    by_cases h : k < w.heap.size
    · exact this.block k h (fun e => by cases e; omega)
    · have hs : (putRow encZ (Sort.ahead w q) blk 0 d).heap.size = w.heap.size := by simp [putRow, mapBlock, Sort.ahead]
      rw [Array.getElem?_eq_none (by omega), Array.getElem?_eq_none (by omega)]⟩
theorem sortWorld_heap {w : World} {blk n k : Nat} {os : Array Obj} (dk : Array Int) (hk : k < w.heap.size) (hne : k ≠ blk) : (sortWorld encZ w blk 0 n dk os).heap[k]? = w.heap[k]? := by
  have := (grownBy_sorted_i (w := w) (g := blk) (n := n) (os := os) dk).block k hk (fun e => hne (by cases e; rfl))
  exact this
theorem delete_c {v : Value} {L : List Int} {base n : Nat} (he : Ep w H s) (hB : w.cell? ⟨B, 0, none⟩ = some (.pointer (some ⟨H + 4, 0, none⟩))) (hrow : w.ownsRow base 3 1 v n (nums .i64 L)) (hn : L.length = n) (h1 : H + 5 ≤ base) (h2 : B < base) (hnm : n ≤ 1000000) :
    Calls Try.prog 36 #[v, .func (.func 39) #[] #[.pointer (some ⟨B, 0, none⟩)]] w fun e w' => ∃ A c, e = .returned (.slice A (L.filter s.live).length c) ∧ (L.filter s.live).length ≤ c ∧
      w'.ownsRow base 3 1 (.slice A (L.filter s.live).length c) (L.filter s.live).length (nums .i64 (L.filter s.live)) ∧ Below base w w' := by
  have hBl : B < w.heap.size := by
    unfold World.cell? at hB
    split at hB
    · rename_i hx; exact (Array.getElem?_eq_some_iff.1 hx).1
    · cases hB
  rcases hrow.2 with ⟨rfl, hz⟩ | ⟨blk, cap, cur, rfl, hg, hb, hc, hcap, hsz, ht⟩
  · have : L = [] := List.eq_nil_of_length_eq_zero (by omega)
    subst this
    refine (deleteNil_c _ 0 w).mono ?_
    rintro e w' ⟨rfl, rfl⟩
    exact ⟨none, 0, rfl, Nat.le_refl _, own_nil _ _ _ _, Below.refl _ _⟩
  · have eg : ∀ args w, (callFunc 39 args).run Try.prog w = .ok (.enter 39 args) w := enters_of Try.func39 (by kernel_rfl) rfl
    have hHold : Holds encZ w blk 0 L.toArray := holds_of_block_i hb (by rw [Nat.mul_one] at ht; rw [hn]; exact ht)
    have hkeep : ∀ W : World, (∀ k, k < w.heap.size → k ≠ blk → W.heap[k]? = w.heap[k]?) → Ep W H s ∧ W.cell? ⟨B, 0, none⟩ = some (.pointer (some ⟨H + 4, 0, none⟩)) := by
      intro W hW
      have hl := he.lt
      exact ⟨he.keep (fun j h3 h4 => hW j (by omega) (by omega)), (World.cell?_of_block (hW B hBl (by omega))).trans hB⟩
    have hpred : PredAt Try.prog 39 #[.pointer (some ⟨B, 0, none⟩)] encZ (fun x => !s.live x) w := by
      intro W x hW
      obtain ⟨k1, k2⟩ := hkeep W (fun k hk _ => hW.block k hk)
      refine (live1_c k1 k2 x).mono ?_
      rintro e w' ⟨rfl, rfl⟩
      exact ⟨rfl, 0, rfl⟩
    have hover : PredOver Try.prog 39 #[.pointer (some ⟨B, 0, none⟩)] encZ (fun x => !s.live x) blk 0 L.toArray.size w := by
      intro m os dk x _
      obtain ⟨k1, k2⟩ := hkeep (sortWorld encZ w blk 0 m dk os) (fun k hk hne => sortWorld_heap dk hk hne)
      refine (live1_c k1 k2 x).mono ?_
      rintro e w' ⟨rfl, rfl⟩
      exact ⟨rfl, 0, rfl⟩
    have hcon := AnyE.slices_DeleteFunc Try.l10 encZ (fun _ => rfl) (fun x => !s.live x) 39 #[.pointer (some ⟨B, 0, none⟩)] eg 0 Try.zeroValue3 blk 0 cap L.toArray w hpred hover hHold (by simp; omega) (by simp; omega)
    have hnn : ∀ x : Int, (!(!s.live x)) = s.live x := fun x => by simp
    simp only [hnn, List.size_toArray, hn] at hcon
    refine Calls.mono hcon ?_
    rintro e w' ⟨rfl, q, rfl⟩
    have hle : (L.filter s.live).length ≤ n := by rw [← hn]; exact List.length_filter_le _ _
    have hle' : (List.filter (fun x => s.live x) L).length ≤ n := hle
    exact ⟨_, cap, rfl, by omega, own_cut hrow (by rw [List.length_append, List.length_replicate]; omega), putRow_below _ hg⟩
set_option maxRecDepth 100000 in
theorem lives_c (he : Ep w H s) (hw : ∀ p ∈ s.ever, (Lit.int .i64 p.1).wf = true) (hl : s.ever.length ≤ 1000000) :
    Calls Try.prog 25 #[.pointer (some ⟨H + 4, 0, none⟩)] w fun e w' => ∃ A c, e = .returned (.slice A s.lives.length c) ∧ s.lives.length ≤ c ∧ Kd.C (Kd.int .i64) w' A s.lives.length s.lives ∧ Below w.heap.size w w' := by
  have hlt := he.lt
  have hmf : ∀ (fn : Fn) (first cap : Array Value) (w : World), (Instr.makeFunc fn first cap).run Try.prog w = .ok (.func fn first cap) w := fun _ _ _ _ => rfl
  obtain ⟨w1, e1⟩ : ∃ w1, w.alloc (.cells #[.pointer (some ⟨H + 4, 0, none⟩)] 24) = w1 := ⟨_, rfl⟩
  obtain ⟨w2, e2⟩ : ∃ w2, w1.alloc (.cells #[.map (some (H + 3))] 51) = w2 := ⟨_, rfl⟩
  have b1 : Below w.heap.size w w1 := by rw [← e1]; exact below_alloc (Below.refl _ _) _
  have s1 : w1.heap.size = w.heap.size + 1 := by rw [← e1]; simp
  have s2 : w2.heap.size = w.heap.size + 2 := by rw [← e2]; simp [s1]
  have b2 : Below w.heap.size w w2 := by rw [← e2]; exact below_alloc b1 _
  have p1 : w1.heap[w.heap.size]? = some (.cells #[.pointer (some ⟨H + 4, 0, none⟩)] 24 (0, 0)) := by rw [← e1]; exact blk_new _ _
  have p2 : w2.heap[w.heap.size]? = some (.cells #[.pointer (some ⟨H + 4, 0, none⟩)] 24 (0, 0)) := by rw [← e2]; exact blk_alloc p1 _
  have p3 : w2.heap[w.heap.size + 1]? = some (.cells #[.map (some (H + 3))] 51 (0, 0)) := by rw [← e2, ← s1]; exact blk_new _ _
  have he1 : Ep w1 H s := he.keep (fun j h3 h4 => b1.block j (by omega))
  have he2 : Ep w2 H s := he.keep (fun j h3 h4 => b2.block j (by omega))
  have c5 : w1.cell? ⟨H + 4, 5, none⟩ = some (.map (some (H + 3))) := (blk_cell he1.cells 5).trans rfl
  have c0 : w1.cell? ⟨w.heap.size, 0, none⟩ = some (.pointer (some ⟨H + 4, 0, none⟩)) := (blk_cell p1 0).trans rfl
  have cS := Aside0.mk (sorted_c he2.ever ((blk_cell p3 0).trans rfl) (by omega) hw hl)
  have hC2 := Aside0.mk he2
  have B2 := Aside0.mk b2
  have P2 := Aside0.mk p2
  have LT := Aside0.mk hlt
  have S2 := Aside0.mk s2
  have E2 := Aside0.mk e2
  have HL := Aside0.mk hl
  have hlen : Aside0 (((s.ever.map (·.1)).mergeSort (fun x y => decide (x ≤ y))).length = s.ever.length) := ⟨by simp⟩
  clear he he1 he2 p1 p2 p3 b1 b2 s2 hlt hw e2 hl
  go_enter Try.func25, Try.ntmps25
  go_wp2_with (first
    | (go_at_call 38; refine (keys_c _ _).mono ?_; rintro e w' ⟨rfl, rfl⟩; rw [E2.out, s1]; clear E2 e1)
    | (go_at_call 37; refine cS.out.mono ?_; rintro e w3 ⟨v, rfl, hrow, hnil, hb⟩; have hD := Aside0.mk (delete_c (B := w.heap.size) (hC2.out.keep (fun j h3 h4 => hb.block j (by have := LT.out; have := S2.out; omega))) ((blk_cell (blk_below P2.out hb) 0).trans rfl) hrow hlen.out (by have := LT.out; have := S2.out; omega) (by have := S2.out; omega) HL.out); have B3 := Aside0.mk (below_step B2.out hb); clear hrow hnil hb)
    | (go_at_call 36; refine hD.out.mono ?_; rintro e w4 ⟨A, c, rfl, hcap, hrow, hb⟩; have hrow := Aside0.mk hrow; have B4 := Aside0.mk (below_weaken B3.out (by have := S2.out; omega) hb); have hcap := Aside0.mk hcap; clear hb))
  go_ret
  refine ⟨A, c, rfl, hcap.out, ?_, B4.out⟩
  obtain ⟨A', c', e', hr⟩ := own_reads_row hrow.out (Kd.reps_scalar (enc := encZ) s.lives) rfl
  cases e'
  exact hr
end
end Go.Proofs.Ytfiehglbpcjkfaa.Hand
