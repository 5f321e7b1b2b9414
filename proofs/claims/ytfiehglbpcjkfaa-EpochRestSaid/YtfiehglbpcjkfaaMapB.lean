/- Maps by a list of keys and elements of any Lean type, an element encoded; laws at the operations. -/
import Derived.Test.YtfiehglbpcjkfaaWWords
import Derived.MapKept
import Derived.Maps.RangeWalk
import Derived.Maps.OwnSet
namespace Go.Proofs.Ytfiehglbpcjkfaa.Hand
open Go Go.MapKept Go.ChangeMaps Go.Proofs.YtfiehglbpcjkfaaW.PrintWords
set_option linter.unusedSectionVars false
theorem erase_map {α β : Type} (f : α → β) : ∀ (l : List α) (j : Nat), (l.eraseIdx j).map f = (l.map f).eraseIdx j
  | [], _ => by simp
  | _ :: _, 0 => rfl
  | a :: l, j + 1 => by rw [List.eraseIdx_cons_succ, List.map_cons, List.map_cons, List.eraseIdx_cons_succ, erase_map f l j]
section
variable {κ β : Type} [DecidableEq κ] {P : Program} {enc : κ → Value} {ev : β → Value} {w : World} {g : Nat} {l : List (κ × β)} {mt kt et : TypeId} {d : TypeDesc}
def lget (l : List (κ × β)) (k : κ) : Option β := (l.find? (fun p => decide (p.1 = k))).map (·.2)
def lput (l : List (κ × β)) (k : κ) (v : β) : List (κ × β) := if (lget l k).isSome = true then l.map (fun p => if p.1 = k then (p.1, v) else p) else l ++ [(k, v)]
def ldel (l : List (κ × β)) (k : κ) : List (κ × β) := l.filter (fun p => decide (p.1 ≠ k))
/-- Block g is a map with these keys and elements, elder ones first. -/
def MapB (enc : κ → Value) (ev : β → Value) (w : World) (g : Nat) (l : List (κ × β)) : Prop :=
  ∃ es clock, w.heap[g]? = some (.map es clock) ∧ Stamped es clock ∧ es.toList.map (fun e => (e.key, e.val)) = l.map (fun p => (enc p.1, ev p.2))
theorem lget_none {l : List (κ × β)} {k : κ} (h : ∀ p ∈ l, p.1 ≠ k) : lget l k = none := by
  unfold lget
  rw [List.find?_eq_none.2 (fun p hp => by simpa using h p hp)]
  rfl
theorem lget_at {l : List (κ × β)} {k : κ} {j : Nat} {p : κ × β} (hn : (l.map (·.1)).Nodup) (hj : l[j]? = some p) (hk : p.1 = k) : lget l k = some p.2 := by
  unfold lget
  induction l generalizing j with
  | nil => simp at hj
  | cons q l ih =>
    simp only [List.map_cons, List.nodup_cons] at hn
    cases j with
    | zero =>
      simp only [List.getElem?_cons_zero, Option.some.injEq] at hj
      subst hj
      rw [List.find?_cons_of_pos (by simpa using hk)]
      rfl
    | succ j =>
      simp only [List.getElem?_cons_succ] at hj
      have hm : p.1 ∈ l.map (·.1) := List.mem_map.2 ⟨p, List.mem_of_getElem? hj, rfl⟩
      have hq : q.1 ≠ k := fun e => hn.1 (by rw [e, ← hk]; exact hm)
      rw [List.find?_cons_of_neg (by simpa using hq)]
      exact ih hn.2 hj
theorem lget_put (l : List (κ × β)) (k k' : κ) (v : β) : lget (lput l k v) k' = if k' = k then some v else lget l k' := by
  unfold lput
  split
  · rename_i h
    unfold lget at h ⊢
    induction l with
    | nil => simp at h
    | cons q l ih =>
      rw [List.map_cons]
      by_cases hq : q.1 = k
      · rw [if_pos hq]
        by_cases hk : k' = k
        · subst hk
          rw [List.find?_cons_of_pos (by simpa using hq), if_pos rfl]
          rfl
        · have h1 : ¬ q.1 = k' := fun e => hk (e.symm.trans hq)
          rw [List.find?_cons_of_neg (by simpa using h1), List.find?_cons_of_neg (by simpa using h1), if_neg hk]
          have : ∀ m : List (κ × β), (m.map (fun p => if p.1 = k then (p.1, v) else p)).find? (fun p => decide (p.1 = k')) = m.find? (fun p => decide (p.1 = k')) := by
            intro m
            induction m with
            | nil => rfl
            | cons a m im =>
              rw [List.map_cons]
              by_cases ha : a.1 = k'
              · have h2 : ¬ a.1 = k := fun e => hk (ha.symm.trans e)
                rw [if_neg h2, List.find?_cons_of_pos (by simpa using ha), List.find?_cons_of_pos (by simpa using ha)]
              · rw [List.find?_cons_of_neg (by split <;> simpa using ha), List.find?_cons_of_neg (by simpa using ha), im]
          rw [this]
      · rw [if_neg hq]
        by_cases h1 : q.1 = k'
        · rw [List.find?_cons_of_pos (by simpa using h1), List.find?_cons_of_pos (by simpa using h1), if_neg (fun e => hq (h1.trans e))]
        · rw [List.find?_cons_of_neg (by simpa using h1), List.find?_cons_of_neg (by simpa using h1)]
          rw [List.find?_cons_of_neg (by simpa using hq)] at h
          exact ih h
  · rename_i h
    unfold lget at h ⊢
    rw [List.find?_append]
    have hn : l.find? (fun p => decide (p.1 = k)) = none := by
      cases e : l.find? (fun p => decide (p.1 = k)) with
      | none => rfl
      | some p => rw [e] at h; exact absurd rfl h
    by_cases hk : k' = k
    · subst hk
      rw [hn, if_pos rfl]
      simp
    · rw [if_neg hk, List.find?_cons_of_neg (by simpa using fun e => hk e.symm)]
      simp
theorem MapB.nodup (h : MapB enc ev w g l) : (l.map (·.1)).Nodup := by
  obtain ⟨es, clock, _, hs, he⟩ := h
  have h2 := hs.2.2
  have e : es.toList.map (·.key) = (l.map (·.1)).map enc := by
    have := congrArg (List.map Prod.fst) he
    rw [List.map_map, List.map_map] at this
    rw [List.map_map]
    exact this
  rw [e] at h2
  unfold List.Nodup at h2 ⊢
  rw [List.pairwise_map] at h2
  exact h2.imp (fun h e => h (by rw [e]))
/-- What the search finds. -/
theorem MapB.find (hk : ∀ k, IsKey d (enc k)) (hi : ∀ a b, enc a = enc b → a = b) {es : Array MapEntry} (hs : (l.map (·.1)).Nodup) (he : es.toList.map (fun e => (e.key, e.val)) = l.map (fun p => (enc p.1, ev p.2))) (k : κ) :
    (lget l k = none ∧ Instr.findNow d (enc k) es.toList 0 = some none ∧ ∀ x ∈ es.toList, x.key ≠ enc k) ∨
    ∃ (j : Nat) (e : MapEntry) (v : β), lget l k = some v ∧ Instr.findNow d (enc k) es.toList 0 = some (some (j, ev v)) ∧ es[j]? = some e ∧ e.key = enc k ∧ e.val = ev v ∧ l[j]? = some (k, v) := by
  have hkeys : ∀ x ∈ es.toList, IsKey d x.key := by
    intro x hx
    have : (x.key, x.val) ∈ l.map (fun p => (enc p.1, ev p.2)) := by rw [← he]; exact List.mem_map.2 ⟨x, hx, rfl⟩
    obtain ⟨p, _, hp⟩ := List.mem_map.1 this
    rw [← (Prod.mk.inj hp).1]
    exact hk _
  rcases findNow_spec (hk k) es.toList 0 hkeys with ⟨h1, h2⟩ | ⟨j, e, h1, h2, h3⟩
  · refine .inl ⟨lget_none fun p hp e => ?_, h1, h2⟩
    have : (enc p.1, ev p.2) ∈ es.toList.map (fun e => (e.key, e.val)) := by rw [he]; exact List.mem_map.2 ⟨p, hp, rfl⟩
    obtain ⟨x, hx, hx2⟩ := List.mem_map.1 this
    exact h2 x hx (by rw [(Prod.mk.inj hx2).1, e])
  · have hl : (l.map (fun p => (enc p.1, ev p.2)))[j]? = some (e.key, e.val) := by rw [← he, List.getElem?_map, h2]; rfl
    rw [List.getElem?_map] at hl
    obtain ⟨p, hp1, hp2⟩ := Option.map_eq_some_iff.1 hl
    obtain ⟨hp3, hp4⟩ := Prod.mk.inj hp2
    have hpk : p.1 = k := hi _ _ (hp3.trans h3)
    refine .inr ⟨j, e, p.2, ?_, by rw [hp4]; simpa using h1, by simpa using h2, h3, hp4.symm, ?_⟩
    · rw [lget_at hs hp1 hpk]
    · rw [hp1, ← hpk]
theorem run_look (hm : P.underlying mt = some (.map kt et)) (hd : P.underlying kt = some d) (hk : ∀ k, IsKey d (enc k)) (hi : ∀ a b, enc a = enc b → a = b) (h : MapB enc ev w g l) (k : κ) {z : Value} (hz : (zeroValue et).run P w = .ok z w) (b : Bool) :
    (Instr.lookup mt (.map (some g)) (enc k) b).run P w = .ok (if b = true then .tuple #[((lget l k).map ev).getD z, .bool (lget l k).isSome] else ((lget l k).map ev).getD z) w := by
  have hn := h.nodup
  obtain ⟨es, clock, hb, hs, he⟩ := h
  rcases MapB.find hk hi hn he k with ⟨h1, h2, _⟩ | ⟨j, e, v, h1, h2, _⟩
  · cases b <;> simp [Instr.lookup, run_underlying hm, MapKept.run_getObj_map hb, run_checkKey hd (hk k), run_findKey hd h2, Result.andThen, hz, h1]
  · cases b <;> simp [Instr.lookup, run_underlying hm, MapKept.run_getObj_map hb, run_checkKey hd (hk k), run_findKey hd h2, Result.andThen, h1]
theorem run_look_nil (hm : P.underlying mt = some (.map kt et)) (hd : P.underlying kt = some d) (k : Value) (hk : IsKey d k) {z : Value} (hz : (zeroValue et).run P w = .ok z w) (b : Bool) :
    (Instr.lookup mt (.map none) k b).run P w = .ok (if b = true then .tuple #[z, .bool false] else z) w := by
  have h2 : Instr.findNow d k [] 0 = some none := rfl
  cases b <;> simp [Instr.lookup, run_underlying hm, run_checkKey hd hk, run_findKey hd h2, Result.andThen, hz]
/-- A map's block is set; all others stay. -/
def setMap (w : World) (g : Nat) (o : Obj) : World := { w with heap := w.heap.setIfInBounds g o }
theorem setMap_far {o o' : Obj} {r : Nat} (hn : r ≠ g) (h : w.heap[r]? = some o) : (setMap w g o').heap[r]? = some o := by
  unfold setMap
  show (w.heap.setIfInBounds g o')[r]? = some o
  rw [Array.getElem?_setIfInBounds_ne (Ne.symm hn)]
  exact h
theorem run_update (hm : P.underlying mt = some (.map kt et)) (hd : P.underlying kt = some d) (hk : ∀ k, IsKey d (enc k)) (hi : ∀ a b, enc a = enc b → a = b) (h : MapB enc ev w g l) (k : κ) (v : β) :
    ∃ o, ∀ w1 : World, w1.heap[g]? = w.heap[g]? → (Instr.mapUpdate mt (.map (some g)) (enc k) (ev v)).run P w1 = .ok () (setMap w1 g o) ∧ MapB enc ev (setMap w1 g o) g (lput l k v) := by
  have hn := h.nodup
  obtain ⟨es, clock, hb0, hs, he⟩ := h
  rcases MapB.find hk hi hn he k with ⟨h1, h2, h3⟩ | ⟨j, e, u, h1, h2, h3, h4, h5, h6⟩
  · refine ⟨.map (es.push { key := enc k, val := ev v, born := clock }) (clock + 1), fun w1 hw => ?_⟩
    have hb := hw.trans hb0
    refine ⟨by simp [Instr.mapUpdate, run_underlying hm, MapKept.run_getObj_map hb, run_checkKey hd (hk k), run_findKey hd h2, MapKept.run_setObj_map _ hb, Result.andThen]; (try rfl), _, _, (MapKept.heap_set hb).1, stamped_push hs h3, ?_⟩
    unfold lput
    rw [h1, if_neg (by simp)]
    simp [he]
  · refine ⟨.map (es.modify j fun e' => { e' with key := enc k, val := ev v }) clock, fun w1 hw => ?_⟩
    have hb := hw.trans hb0
    refine ⟨by simp [Instr.mapUpdate, run_underlying hm, MapKept.run_getObj_map hb, run_checkKey hd (hk k), run_findKey hd h2, h3, h4, run_keyThatStays (hk k), MapKept.run_setObj_map _ hb, Result.andThen]; (try rfl), _, _, (MapKept.heap_set hb).1, ?_, ?_⟩
    · exact stamped_modify hs _ _ (fun _ _ => rfl) (fun e' _ he' => by rw [h3] at he'; cases he'; exact h4.symm)
    · unfold lput
      rw [h1, if_pos (show (some u).isSome = true from rfl)]
      refine List.ext_getElem? fun i => ?_
      have hii : (es.toList.map (fun e => (e.key, e.val)))[i]? = (l.map (fun p => (enc p.1, ev p.2)))[i]? := by rw [he]
      rw [List.getElem?_map, List.getElem?_map] at hii
      rw [List.getElem?_map, List.getElem?_map, List.getElem?_map, Array.getElem?_toList, Array.getElem?_modify]
      rw [Array.getElem?_toList] at hii
      by_cases hij : j = i
      · subst hij
        rw [if_pos rfl, h3, h6]
        simp
      · rw [if_neg hij, hii]
        cases hl : l[i]? with
        | none => rfl
        | some p =>
          have hne : p.1 ≠ k := by
            intro e
            have hq1 : (l.map (·.1))[i]? = some k := by rw [List.getElem?_map, hl, ← e]; rfl
            have hq2 : (l.map (·.1))[j]? = some k := by rw [List.getElem?_map, h6]; rfl
            exact hij ((List.getElem?_inj (List.getElem?_eq_some_iff.1 hq2).1 hn).1 (hq2.trans hq1.symm))
          simp [hne]
theorem run_del {ty : TypeId} (hm : P.underlying mt = some (.map kt et)) (hd : P.underlying kt = some d) (hk : ∀ k, IsKey d (enc k)) (hi : ∀ a b, enc a = enc b → a = b) (h : MapB enc ev w g l) (k : κ) :
    ∃ o, (Builtin.delete_ #[mt, kt] ty #[.map (some g), enc k]).run P w = .ok (.tuple #[]) (setMap w g o) ∧ MapB enc ev (setMap w g o) g (ldel l k) := by
  have hn := h.nodup
  obtain ⟨es, clock, hb, hs, he⟩ := h
  rcases MapB.find hk hi hn he k with ⟨h1, h2, h3⟩ | ⟨j, e, u, h1, h2, h3, h4, h5, h6⟩
  · refine ⟨_, by simp [Builtin.delete_, run_underlying hm, MapKept.run_getObj_map hb, run_checkKey hd (hk k), run_findKey hd h2, MapKept.run_setObj_map _ hb, Result.andThen]; rfl, _, _, (MapKept.heap_set hb).1, hs, ?_⟩
    rw [he]
    have : ldel l k = l := List.filter_eq_self.2 fun p hp => by
      have : (enc p.1, ev p.2) ∈ es.toList.map (fun e => (e.key, e.val)) := by rw [he]; exact List.mem_map.2 ⟨p, hp, rfl⟩
      obtain ⟨x, hx, hx2⟩ := List.mem_map.1 this
      have hne := h3 x hx
      rw [(Prod.mk.inj hx2).1] at hne
      simpa using fun e => hne (by rw [e])
    rw [this]
  · refine ⟨_, by simp [Builtin.delete_, run_underlying hm, MapKept.run_getObj_map hb, run_checkKey hd (hk k), run_findKey hd h2, MapKept.run_setObj_map _ hb, Result.andThen]; rfl, _, _, (MapKept.heap_set hb).1, stamped_erase hs _, ?_⟩
    have hj : j < es.size := (Array.getElem?_eq_some_iff.1 h3).1
    have e1 : (es.eraseIdxIfInBounds j).toList = es.toList.eraseIdx j := by
      unfold Array.eraseIdxIfInBounds
      rw [dif_pos hj]
      simp
    rw [e1, erase_map, he, ← erase_map]
    congr 1
    have hl : j < l.length := (List.getElem?_eq_some_iff.1 h6).1
    have key : ∀ (m : List (κ × β)) (j : Nat), (m.map (·.1)).Nodup → m[j]? = some (k, u) → m.eraseIdx j = m.filter (fun p => decide (p.1 ≠ k)) := by
      intro m
      induction m with
      | nil => intro j _ h; simp at h
      | cons q m ih =>
        intro j hn hj
        simp only [List.map_cons, List.nodup_cons] at hn
        cases j with
        | zero =>
          simp only [List.getElem?_cons_zero, Option.some.injEq] at hj
          subst hj
          rw [List.eraseIdx_cons_zero, List.filter_cons_of_neg (by simp)]
          exact (List.filter_eq_self.2 fun p hp => by
            simpa using fun e => hn.1 (List.mem_map.2 ⟨p, hp, e⟩)).symm
        | succ j =>
          simp only [List.getElem?_cons_succ] at hj
          have hq : q.1 ≠ k := fun e => hn.1 (List.mem_map.2 ⟨_, List.mem_of_getElem? hj, by rw [e]⟩)
          rw [List.eraseIdx_cons_succ, List.filter_cons_of_pos (by simpa using hq), ih j hn.2 hj]
    exact key l j hn h6
theorem MapB.far {o : Obj} {r : Nat} (h : MapB enc ev w g l) (hn : g ≠ r) : MapB enc ev (setMap w r o) g l := by
  obtain ⟨es, clock, hb, hs, he⟩ := h
  exact ⟨es, clock, setMap_far hn hb, hs, he⟩
theorem MapB.keep {w1 : World} (h : MapB enc ev w g l) (hh : w1.heap[g]? = w.heap[g]?) : MapB enc ev w1 g l := by
  obtain ⟨es, clock, hb, hs, he⟩ := h
  exact ⟨es, clock, hh.trans hb, hs, he⟩
theorem MapB.new (enc : κ → Value) (ev : β → Value) (w : World) : MapB enc ev (w.alloc (.map #[] 0)) w.heap.size ([] : List (κ × β)) := ⟨#[], 0, (MapKept.heap_alloc w _).1, stamped_empty 0, rfl⟩

theorem MapB.here (h : MapB enc ev w g l) {w1 : World} (hh : w1.heap[g]? = w.heap[g]?) : MapB enc ev w1 g l := h.keep hh
theorem MapB.lt (h : MapB enc ev w g l) : g < w.heap.size := by
  obtain ⟨es, clock, hb, _⟩ := h
  exact (Array.getElem?_eq_some_iff.1 hb).1
/-- A world in which block g alone has turned. -/
theorem setMap_grown (w : World) (g : Nat) (o : Obj) : w.grownBy (setMap w g o) (some g) :=
  ⟨rfl, rfl, rfl, by simp [setMap], fun k _ hk => by
    show (w.heap.setIfInBounds g o)[k]? = _
    rw [Array.getElem?_setIfInBounds_ne (fun e => hk (by rw [e]))]⟩
theorem setMap_size (w : World) (g : Nat) (o : Obj) : (setMap w g o).heap.size = w.heap.size := by simp [setMap]
section
variable {ops : Array Oper} {rest : List Oper} {o : Oper} {a : Act} {Q : Exit → Act → World → Prop}
theorem wpList_upd (hg : o.guard = none) (m x v : Operand) (t : TypeId) (hop : o.op = Op.mapUpdate t m x v) (hm : P.underlying t = some (.map kt et)) (hd : P.underlying kt = some d) (hk : ∀ k, IsKey d (enc k)) (hi : ∀ a b, enc a = enc b → a = b)
    (hmv : a.eval m = .map (some g)) (h : MapB enc ev w g l) (k : κ) (y : β) (hx : a.eval x = enc k) (hv : a.eval v = ev y)
    (hK : ∀ w1, MapB enc ev w1 g (lput l k y) → w.grownBy w1 (some g) → w1.heap.size = w.heap.size → wpList P ops Q rest (a.put o.dst undef) w1) : wpList P ops Q (o :: rest) a w := by
  refine wpList_plain hg fun K' hK' => ?_
  obtain ⟨ob, hrr⟩ := run_update hm hd hk hi h k y
  obtain ⟨hrun, r1⟩ := hrr w rfl
  unfold Oper.wp
  simp [execOp, hop, hmv, hx, hv, hrun, Result.andThen]
  exact hK' _ _ (hK _ r1 (setMap_grown _ _ _) (setMap_size _ _ _))
theorem wpList_del (hg : o.guard = none) (m x : Operand) (t k' : TypeId) (hop : o.op = Op.call { callee := Callee.builtin Builtin.delete, args := #[m, x], argTypes := #[t, k'] }) (hm : P.underlying t = some (.map k' et)) (hd : P.underlying k' = some d) (hk : ∀ k, IsKey d (enc k)) (hi : ∀ a b, enc a = enc b → a = b)
    (hmv : a.eval m = .map (some g)) (h : MapB enc ev w g l) (k : κ) (hx : a.eval x = enc k)
    (hK : ∀ w1, MapB enc ev w1 g (ldel l k) → w.grownBy w1 (some g) → w1.heap.size = w.heap.size → wpList P ops Q rest (a.put o.dst (.tuple #[])) w1) : wpList P ops Q (o :: rest) a w := by
  refine wpList_plain hg fun K' hK' => ?_
  obtain ⟨ob, hrun, r1⟩ := run_del (ty := o.type) hm hd hk hi h k
  unfold Oper.wp
  simp [execOp, hop, resolve, invoke, builtin, hmv, hx, hrun, Result.andThen]
  exact hK' _ _ (hK _ r1 (setMap_grown _ _ _) (setMap_size _ _ _))
end
/-- Block r ranges over the map of block g; 'todo': its entries that are still to come. -/
def RngB (enc : κ → Value) (ev : β → Value) (w : World) (g r : Nat) (l todo : List (κ × β)) : Prop :=
  ∃ es clock since seen c0, w.heap[g]? = some (.map es clock) ∧ Stamped es clock ∧ es.toList.map (fun e => (e.key, e.val)) = l.map (fun p => (enc p.1, ev p.2)) ∧
    w.heap[r]? = some (.mapIter (some g) since seen c0) ∧ (∀ x ∈ es.toList, x.born < since) ∧ since ≤ c0 ∧ since ≤ clock ∧ (leftOf es seen).toList.map (fun e => (e.key, e.val)) = todo.map (fun p => (enc p.1, ev p.2))
theorem RngB.map {r : Nat} {todo : List (κ × β)} (h : RngB enc ev w g r l todo) : MapB enc ev w g l := by
  obtain ⟨es, clock, since, seen, c0, hb, hs, he, _⟩ := h
  exact ⟨es, clock, hb, hs, he⟩
theorem RngB.keep {r : Nat} {todo : List (κ × β)} {w1 : World} (h : RngB enc ev w g r l todo) (hg : w1.heap[g]? = w.heap[g]?) (hr : w1.heap[r]? = w.heap[r]?) : RngB enc ev w1 g r l todo := by
  obtain ⟨es, clock, since, seen, c0, hb, hs, he, h1, h2⟩ := h
  exact ⟨es, clock, since, seen, c0, hg.trans hb, hs, he, hr.trans h1, h2⟩
theorem RngB.lt {r : Nat} {todo : List (κ × β)} (h : RngB enc ev w g r l todo) : g < w.heap.size ∧ r < w.heap.size ∧ g ≠ r := by
  obtain ⟨es, clock, since, seen, c0, hb, hs, he, h1, h2⟩ := h
  refine ⟨(Array.getElem?_eq_some_iff.1 hb).1, (Array.getElem?_eq_some_iff.1 h1).1, fun e => ?_⟩
  rw [e, h1] at hb
  cases hb
theorem rng_start (h : MapB enc ev w g l) (hm : P.underlying mt = some (.map kt et)) : ∃ w1, (Instr.range mt (.map (some g))).run P w = .ok (.pointer (some ⟨w.heap.size, 0, none⟩)) w1 ∧ RngB enc ev w1 g w.heap.size l l ∧ w.grownBy w1 none ∧ w1.heap.size = w.heap.size + 1 := by
  have hlt := h.lt
  obtain ⟨es, clock, hb, hs, he⟩ := h
  refine ⟨w.alloc (.mapIter (some g) clock #[] clock), ?_, ?_, World.grownBy_alloc _ _ _, by simp⟩
  · simp [Instr.range, run_underlying hm, MapKept.run_getObj_map hb, Result.andThen]
    first | rfl | skip
  · refine ⟨es, clock, clock, #[], clock, ((MapKept.heap_alloc w _).2 g hlt).trans hb, hs, he, (MapKept.heap_alloc w _).1, hs.1, Nat.le_refl _, Nat.le_refl _, ?_⟩
    rw [← he]
    congr 1
    unfold leftOf
    simp
theorem filter_map2 {α γ δ : Type} {f : α → δ} {f' : γ → δ} {qa : α → Bool} {qb : γ → Bool} : ∀ (L : List α) (T : List γ), L.map f = T.map f' → (∀ x ∈ L, ∀ p ∈ T, f x = f' p → qa x = qb p) → (L.filter qa).map f = (T.filter qb).map f'
  | [], [], _, _ => rfl
  | [], _ :: _, h, _ => by simp at h
  | _ :: _, [], h, _ => by simp at h
  | x :: L, p :: T, h, hq => by
    simp only [List.map_cons, List.cons.injEq] at h
    have ih := filter_map2 L T h.2 (fun y hy z hz => hq y (List.mem_cons_of_mem _ hy) z (List.mem_cons_of_mem _ hz))
    have h0 := hq x (List.mem_cons_self ..) p (List.mem_cons_self ..) h.1
    cases hx : qa x with
    | true => rw [List.filter_cons_of_pos hx, List.filter_cons_of_pos (by rw [← h0]; exact hx), List.map_cons, List.map_cons, ih, h.1]
    | false => rw [List.filter_cons_of_neg (by simp [hx]), List.filter_cons_of_neg (by rw [← h0]; simp [hx]), ih]
theorem erase_filter {α γ : Type} (f : α → γ) (q : α → Bool) : ∀ (m : List α) (j : Nat) (a : α), (m.map f).Nodup → m[j]? = some a → (∀ x ∈ m, q x = true ↔ f x ≠ f a) → m.eraseIdx j = m.filter q
  | [], _, _, _, h, _ => by simp at h
  | b :: m, 0, a, hn, h, hq => by
    simp only [List.map_cons, List.nodup_cons] at hn
    simp only [List.getElem?_cons_zero, Option.some.injEq] at h
    subst h
    rw [List.eraseIdx_cons_zero, List.filter_cons_of_neg (by rw [hq b (List.mem_cons_self ..)]; simp)]
    exact (List.filter_eq_self.2 fun x hx => (hq x (List.mem_cons_of_mem _ hx)).2 fun e => hn.1 (List.mem_map.2 ⟨x, hx, e⟩)).symm
  | b :: m, j + 1, a, hn, h, hq => by
    simp only [List.map_cons, List.nodup_cons] at hn
    simp only [List.getElem?_cons_succ] at h
    have hb : f b ≠ f a := fun e => hn.1 (List.mem_map.2 ⟨a, List.mem_of_getElem? h, e.symm⟩)
    rw [List.eraseIdx_cons_succ, List.filter_cons_of_pos ((hq b (List.mem_cons_self ..)).2 hb), erase_filter f q m j a hn.2 h (fun x hx => hq x (List.mem_cons_of_mem _ hx))]
theorem born_key {es : Array MapEntry} {clock : Nat} (hs : Stamped es clock) {x y : MapEntry} (hx : x ∈ es.toList) (hy : y ∈ es.toList) : x.born = y.born ↔ x.key = y.key := by
  have inj : ∀ {α : Type} (f : MapEntry → α), (es.toList.map f).Nodup → f x = f y → x = y := by
    intro α f hn e
    obtain ⟨i, hi⟩ := List.mem_iff_getElem?.1 hx
    obtain ⟨j, hj⟩ := List.mem_iff_getElem?.1 hy
    have h1 : (es.toList.map f)[i]? = some (f x) := by rw [List.getElem?_map, hi]; rfl
    have h2 : (es.toList.map f)[j]? = some (f y) := by rw [List.getElem?_map, hj]; rfl
    have := (List.getElem?_inj (List.getElem?_eq_some_iff.1 h1).1 hn).1 (h1.trans (by rw [e]; exact h2.symm))
    subst this
    rw [hi] at hj
    exact Option.some.inj hj
  exact ⟨fun e => by rw [inj _ hs.2.1 e], fun e => by rw [inj _ hs.2.2 e]⟩
theorem leftOf_push (es : Array MapEntry) (seen : Array Nat) (n : Nat) : (leftOf es (seen.push n)).toList = (leftOf es seen).toList.filter (fun e => decide (e.born ≠ n)) := by
  unfold leftOf
  rw [Array.toList_filter, Array.toList_filter, List.filter_filter]
  congr 1
  funext e
  by_cases h : e.born = n <;> simp [h]
theorem RngB.next (hi : ∀ a b, enc a = enc b → a = b) {r : Nat} {todo : List (κ × β)} (h : RngB enc ev w g r l todo) (ty : TypeId) :
    (todo = [] ∧ (Instr.next (.pointer (some ⟨r, 0, none⟩)) false ty).run P w = .ok (.tuple #[.bool false]) w) ∨
    ∃ (p : κ × β) (w1 : World), p ∈ todo ∧ (Instr.next (.pointer (some ⟨r, 0, none⟩)) false ty).run P w = .ok (.tuple #[.bool true, enc p.1, ev p.2]) w1 ∧ RngB enc ev w1 g r l (ldel todo p.1) ∧ w.grownBy w1 (some r) ∧ w1.heap.size = w.heap.size ∧
      (Instr.entry (.pointer (some ⟨r, 0, none⟩))).run P w1 = .ok (.tuple #[enc p.1, ev p.2]) w1 := by
  have hne := h.lt.2.2
  obtain ⟨es, clock, since, seen, c0, hb, hs, he, hr, ho, hc, hc2, ht⟩ := h
  rcases run_next_at w ty r g since c0 seen es clock hr hb ho hc with ⟨h0, hrun⟩ | ⟨e, hmem, w0, hw0, hrun⟩
  · refine .inl ⟨?_, hrun⟩
    have hl : (leftOf es seen).toList = [] := List.eq_nil_of_length_eq_zero (by rw [Array.length_toList]; exact h0)
    rw [hl] at ht
    exact (List.map_eq_nil_iff.1 ht.symm)
  · have hin : (e.key, e.val) ∈ todo.map (fun p => (enc p.1, ev p.2)) := by rw [← ht]; exact List.mem_map.2 ⟨e, hmem, rfl⟩
    obtain ⟨p, hp, hpe⟩ := List.mem_map.1 hin
    obtain ⟨hk1, hv1⟩ := Prod.mk.inj hpe
    have hes : e ∈ es.toList := by
      have : e ∈ es.toList.filter (fun e => !seen.contains e.born) := by unfold leftOf at hmem; rw [Array.toList_filter] at hmem; exact hmem
      exact (List.mem_filter.1 this).1
    have hb0 : w0.heap[g]? = some (.map es clock) := by rcases hw0 with rfl | rfl <;> exact hb
    have hr0 : w0.heap[r]? = some (.mapIter (some g) since seen c0) := by rcases hw0 with rfl | rfl <;> exact hr
    have hrl : r < w0.heap.size := (Array.getElem?_eq_some_iff.1 hr0).1
    have hb1 : (setBlock w0 r (.mapIter (some g) since (seen.push e.born) clock)).heap[g]? = some (.map es clock) := by
      show (w0.heap.setIfInBounds r _)[g]? = _
      rw [Array.getElem?_setIfInBounds_ne (Ne.symm hne)]
      exact hb0
    have hr1 : (setBlock w0 r (.mapIter (some g) since (seen.push e.born) clock)).heap[r]? = some (.mapIter (some g) since (seen.push e.born) clock) := by
      show (w0.heap.setIfInBounds r _)[r]? = _
      simp [hrl]
    refine .inr ⟨p, _, hp, by rw [hk1, hv1]; exact hrun, ⟨es, clock, since, seen.push e.born, clock, hb1, hs, he, hr1, ho, hc2, hc2, ?_⟩, ?_, ?_, ?_⟩
    · rw [leftOf_push]
      refine filter_map2 _ _ ht fun x hx q hq e1 => ?_
      have hx' : x ∈ es.toList := by
        have : x ∈ es.toList.filter (fun e => !seen.contains e.born) := by unfold leftOf at hx; rw [Array.toList_filter] at hx; exact hx
        exact (List.mem_filter.1 this).1
      have hiff := born_key hs hx' hes
      have hxk := (Prod.mk.inj e1).1
      by_cases hqp : q.1 = p.1
      · have : x.born = e.born := hiff.2 (by rw [hxk, hqp, hk1])
        simp [this, hqp]
      · have : ¬ x.born = e.born := fun e2 => hqp (hi _ _ (by rw [← hxk, hiff.1 e2, hk1]))
        simp [this, hqp]
    · refine ⟨?_, ?_, ?_, by simp [setBlock]; rcases hw0 with rfl | rfl <;> simp, fun k _ hk => ?_⟩
      · rcases hw0 with rfl | rfl <;> rfl
      · rcases hw0 with rfl | rfl <;> rfl
      · rcases hw0 with rfl | rfl <;> rfl
      · show (w0.heap.setIfInBounds r _)[k]? = _
        rw [Array.getElem?_setIfInBounds_ne (fun e => hk (by rw [e]))]
        rcases hw0 with rfl | rfl <;> rfl
    · simp [setBlock]
      rcases hw0 with rfl | rfl <;> rfl
    · rw [hk1, hv1]
      exact run_entry_at _ r g since seen es clock e hr1 hb1 hes hs.2.1
theorem RngB.nodup {r : Nat} {todo : List (κ × β)} (h : RngB enc ev w g r l todo) : (todo.map (·.1)).Nodup := by
  obtain ⟨es, clock, since, seen, c0, hb, hs, he, hr, ho, hc, hc2, ht⟩ := h
  have e : (leftOf es seen).toList.map (·.key) = (todo.map (·.1)).map enc := by
    have := congrArg (List.map Prod.fst) ht
    rw [List.map_map, List.map_map] at this
    rw [List.map_map]
    exact this
  have h1 : ((leftOf es seen).toList.map (·.key)).Nodup := by
    unfold leftOf
    rw [Array.toList_filter]
    exact (List.filter_sublist.map _).nodup hs.2.2
  rw [e] at h1
  unfold List.Nodup at h1 ⊢
  rw [List.pairwise_map] at h1
  exact h1.imp (fun h e => h (by rw [e]))
theorem run_del_rng {ty : TypeId} (hm : P.underlying mt = some (.map kt et)) (hd : P.underlying kt = some d) (hk : ∀ k, IsKey d (enc k)) (hi : ∀ a b, enc a = enc b → a = b) {r : Nat} {todo : List (κ × β)} (h : RngB enc ev w g r l todo) (k : κ) :
    ∃ o, (Builtin.delete_ #[mt, kt] ty #[.map (some g), enc k]).run P w = .ok (.tuple #[]) (setMap w g o) ∧ RngB enc ev (setMap w g o) g r (ldel l k) (ldel todo k) := by
  have hn := h.map.nodup
  have hne := h.lt.2.2
  obtain ⟨es, clock, since, seen, c0, hb, hs, he, hr, ho, hc, hc2, ht⟩ := h
  have hlt : g < w.heap.size := (Array.getElem?_eq_some_iff.1 hb).1
  have key : ∀ (T : List (κ × β)) (L : List MapEntry), L.map (fun e => (e.key, e.val)) = T.map (fun p => (enc p.1, ev p.2)) → (∀ x ∈ L, x.key ≠ enc k) → ldel T k = T := by
    intro T L hT hL
    refine List.filter_eq_self.2 fun p hp => ?_
    have : (enc p.1, ev p.2) ∈ L.map (fun e => (e.key, e.val)) := by rw [hT]; exact List.mem_map.2 ⟨p, hp, rfl⟩
    obtain ⟨x, hx, hx2⟩ := List.mem_map.1 this
    have hne := hL x hx
    rw [(Prod.mk.inj hx2).1] at hne
    simpa using fun e => hne (by rw [e])
  have hleft : ∀ x ∈ (leftOf es seen).toList, x ∈ es.toList := by
    intro x hx
    unfold leftOf at hx
    rw [Array.toList_filter] at hx
    exact (List.mem_filter.1 hx).1
  rcases MapB.find hk hi hn he k with ⟨h1, h2, h3⟩ | ⟨j, e, u, h1, h2, h3, h4, h5, h6⟩
  · refine ⟨_, by simp [Builtin.delete_, run_underlying hm, MapKept.run_getObj_map hb, run_checkKey hd (hk k), run_findKey hd h2, MapKept.run_setObj_map _ hb, Result.andThen]; rfl, es, clock, since, seen, c0, (MapKept.heap_set hb).1, hs, ?_, ?_, ho, hc, hc2, ?_⟩
    · rw [he, key l _ he h3]
    · exact setMap_far (Ne.symm hne) hr
    · rw [ht, key todo _ ht (fun x hx => h3 x (hleft x hx))]
  · have hj : j < es.size := (Array.getElem?_eq_some_iff.1 h3).1
    have hes : e ∈ es.toList := List.mem_of_getElem? (by rw [Array.getElem?_toList]; exact h3)
    have e1 : (es.eraseIdxIfInBounds j).toList = es.toList.filter (fun x => decide (x.born ≠ e.born)) := by
      unfold Array.eraseIdxIfInBounds
      rw [dif_pos hj]
      simp only [Array.toList_eraseIdx]
      exact erase_filter (·.born) _ es.toList j e hs.2.1 (by rw [Array.getElem?_toList]; exact h3) (fun x _ => by simp)
    have hq : ∀ (T : List (κ × β)) (L : List MapEntry), (∀ x ∈ L, x ∈ es.toList) → ∀ x ∈ L, ∀ p ∈ T, (x.key, x.val) = (enc p.1, ev p.2) → decide (x.born ≠ e.born) = decide (p.1 ≠ k) := by
      intro T L hL x hx q _ e2
      have hiff := born_key hs (hL x hx) hes
      have hxk := (Prod.mk.inj e2).1
      by_cases hqp : q.1 = k
      · have : x.born = e.born := hiff.2 (by rw [hxk, hqp, h4])
        simp [this, hqp]
      · have : ¬ x.born = e.born := fun e3 => hqp (hi _ _ (by rw [← hxk, hiff.1 e3, h4]))
        simp [this, hqp]
    refine ⟨_, by simp [Builtin.delete_, run_underlying hm, MapKept.run_getObj_map hb, run_checkKey hd (hk k), run_findKey hd h2, MapKept.run_setObj_map _ hb, Result.andThen]; rfl, _, clock, since, seen, c0, (MapKept.heap_set hb).1, stamped_erase hs _, ?_, ?_, ?_, hc, hc2, ?_⟩
    · rw [e1]
      exact filter_map2 _ _ he (hq l _ (fun x hx => hx))
    · exact setMap_far (Ne.symm hne) hr
    · intro x hx
      rw [e1] at hx
      exact ho x (List.mem_filter.1 hx).1
    · have e2 : (leftOf (es.eraseIdxIfInBounds j) seen).toList = (leftOf es seen).toList.filter (fun x => decide (x.born ≠ e.born)) := by
        unfold leftOf
        rw [Array.toList_filter, Array.toList_filter, e1, List.filter_filter, List.filter_filter]
        congr 1
        funext x
        rw [Bool.and_comm]
      rw [e2]
      exact filter_map2 _ _ ht (hq todo _ hleft)
section
variable {ops : Array Oper} {rest : List Oper} {o : Oper} {a : Act} {Q : Exit → Act → World → Prop}
theorem wpList_rng (hg : o.guard = none) (m : Operand) (t : TypeId) (hop : o.op = Op.range t m) (hm : P.underlying t = some (.map kt et)) (hmv : a.eval m = .map (some g)) (h : MapB enc ev w g l)
    (hK : ∀ w1, RngB enc ev w1 g w.heap.size l l → w.grownBy w1 none → w1.heap.size = w.heap.size + 1 → wpList P ops Q rest (a.put o.dst (.pointer (some ⟨w.heap.size, 0, none⟩))) w1) : wpList P ops Q (o :: rest) a w := by
  refine wpList_plain hg fun K' hK' => ?_
  obtain ⟨w1, hrun, r1, r2, r3⟩ := rng_start h hm
  unfold Oper.wp
  simp [execOp, hop, hmv, hrun, Result.andThen]
  exact hK' _ _ (hK _ r1 r2 r3)
theorem wpList_nxt (hi : ∀ a b, enc a = enc b → a = b) (hg : o.guard = none) (it : Operand) (hop : o.op = Op.next it false) (r : Nat) (hit : a.eval it = .pointer (some ⟨r, 0, none⟩)) {todo : List (κ × β)} (h : RngB enc ev w g r l todo)
    (hDone : todo = [] → wpList P ops Q rest (a.put o.dst (.tuple #[.bool false])) w)
    (hMore : ∀ (k : κ) (y : β) (w1 : World), (k, y) ∈ todo → RngB enc ev w1 g r l (ldel todo k) → w.grownBy w1 (some r) → w1.heap.size = w.heap.size → (Instr.entry (.pointer (some ⟨r, 0, none⟩))).run P w1 = .ok (.tuple #[enc k, ev y]) w1 → wpList P ops Q rest (a.put o.dst (.tuple #[.bool true, enc k, ev y])) w1) :
    wpList P ops Q (o :: rest) a w := by
  refine wpList_plain hg fun K' hK' => ?_
  unfold Oper.wp
  rcases h.next (P := P) hi o.type with ⟨h0, hrun⟩ | ⟨p, w1, hp, hrun, r1, r2, r3, r4⟩
  · simp [execOp, hop, hit, hrun, Result.andThen]
    exact hK' _ _ (hDone h0)
  · simp [execOp, hop, hit, hrun, Result.andThen]
    exact hK' _ _ (hMore p.1 p.2 w1 hp r1 r2 r3 r4)
theorem wpList_drg (hg : o.guard = none) (m x : Operand) (t k' : TypeId) (hop : o.op = Op.call { callee := Callee.builtin Builtin.delete, args := #[m, x], argTypes := #[t, k'] }) (hm : P.underlying t = some (.map k' et)) (hd : P.underlying k' = some d) (hk : ∀ k, IsKey d (enc k)) (hi : ∀ a b, enc a = enc b → a = b)
    (hmv : a.eval m = .map (some g)) {r : Nat} {todo : List (κ × β)} (h : RngB enc ev w g r l todo) (k : κ) (hx : a.eval x = enc k)
    (hK : ∀ w1, RngB enc ev w1 g r (ldel l k) (ldel todo k) → w.grownBy w1 (some g) → w1.heap.size = w.heap.size → wpList P ops Q rest (a.put o.dst (.tuple #[])) w1) : wpList P ops Q (o :: rest) a w := by
  refine wpList_plain hg fun K' hK' => ?_
  obtain ⟨ob, hrun, r1⟩ := run_del_rng (ty := o.type) hm hd hk hi h k
  unfold Oper.wp
  simp [execOp, hop, resolve, invoke, builtin, hmv, hx, hrun, Result.andThen]
  exact hK' _ _ (hK _ r1 (setMap_grown _ _ _) (setMap_size _ _ _))
end
end
end Go.Proofs.Ytfiehglbpcjkfaa.Hand
