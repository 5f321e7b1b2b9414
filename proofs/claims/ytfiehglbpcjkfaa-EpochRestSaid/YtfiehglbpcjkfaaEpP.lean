/- Plain facts on the epochs' state. -/
import Derived.Test.YtfiehglbpcjkfaaEpV
namespace Go.Proofs.Ytfiehglbpcjkfaa.Hand
open Go.Proofs Go Go.MapKept Go.RowKit Go.Proofs.YtfiehglbpcjkfaaW.PrintWords
set_option linter.unusedSimpArgs false
set_option linter.unusedVariables false
set_option linter.unusedSectionVars false
section
variable {κ β : Type} [DecidableEq κ]
theorem lget_del (l : List (κ × β)) (k k' : κ) : lget (ldel l k) k' = if k' = k then none else lget l k' := by
  unfold lget ldel
  rw [List.find?_filter]
  by_cases h : k' = k
  · subst h
    rw [if_pos rfl, List.find?_eq_none.2 (fun p _ => by simp)]
    rfl
  · rw [if_neg h]
    have : (fun p : κ × β => decide (decide (p.1 ≠ k) = true ∧ decide (p.1 = k') = true)) = fun p => decide (p.1 = k') := by
      funext p
      by_cases e : p.1 = k'
      · have e2 : ¬ p.1 = k := fun x => h (e.symm.trans x)
        simp [e, e2]
        exact fun x => h x
      · simp [e]
    rw [this]
theorem lput_len (l : List (κ × β)) (k : κ) (v : β) : (lput l k v).length ≤ l.length + 1 := by
  unfold lput
  split <;> simp
theorem ldel_len (l : List (κ × β)) (k : κ) : (ldel l k).length ≤ l.length := List.length_filter_le _ _
theorem lget_nil (k : κ) : lget ([] : List (κ × β)) k = none := rfl
theorem lget_mem {l : List (κ × β)} {k : κ} {v : β} (h : lget l k = some v) : (k, v) ∈ l := by
  unfold lget at h
  cases e : l.find? (fun p => decide (p.1 = k)) with
  | none => rw [e] at h; cases h
  | some p =>
    rw [e] at h
    have h1 := List.find?_some e
    have h2 := List.mem_of_find?_eq_some e
    have : p = (k, v) := by
      have h3 : p.1 = k := by simpa using h1
      have h4 : p.2 = v := by simpa using h
      rw [← h3, ← h4]
    rw [← this]
    exact h2
theorem lget_isSome {l : List (κ × β)} {k : κ} : (lget l k).isSome = true ↔ k ∈ l.map (·.1) := by
  constructor
  · intro h
    obtain ⟨v, hv⟩ := Option.isSome_iff_exists.1 h
    exact List.mem_map.2 ⟨_, lget_mem hv, rfl⟩
  · intro h
    cases e : lget l k with
    | some v => rfl
    | none =>
      obtain ⟨p, hp, hk⟩ := List.mem_map.1 h
      unfold lget at e
      have := List.find?_eq_none.1 (Option.map_eq_none_iff.1 e) p hp
      simp [hk] at this
theorem lput_keys (l : List (κ × β)) (k : κ) (v : β) : ∀ p ∈ lput l k v, p.1 = k ∨ p.1 ∈ l.map (·.1) := by
  intro p hp
  unfold lput at hp
  split at hp
  · obtain ⟨q, hq, rfl⟩ := List.mem_map.1 hp
    right
    split <;> exact List.mem_map.2 ⟨q, hq, rfl⟩
  · rcases List.mem_append.1 hp with h | h
    · exact .inr (List.mem_map.2 ⟨p, h, rfl⟩)
    · simp at h
      exact .inl (by rw [h])
theorem lput_vals (l : List (κ × β)) (k : κ) (v : β) : ∀ p ∈ lput l k v, p.2 = v ∨ p ∈ l := by
  intro p hp
  unfold lput at hp
  split at hp
  · obtain ⟨q, hq, rfl⟩ := List.mem_map.1 hp
    split
    · exact .inl rfl
    · exact .inr hq
  · rcases List.mem_append.1 hp with h | h
    · exact .inr h
    · simp at h
      exact .inl (by rw [h])
end
theorem nget_put (l : List (Int × Int)) (k k' v : Int) : nget (lput l k v) k' = if k' = k then v else nget l k' := by
  unfold nget
  rw [lget_put]
  split <;> rfl
theorem nget_del (l : List (Int × Int)) (k k' : Int) : nget (ldel l k) k' = if k' = k then 0 else nget l k' := by
  unfold nget
  rw [lget_del]
  split <;> rfl
theorem nget_nil (k : Int) : nget [] k = 0 := rfl
/-- What the contracts ask: small numbers, keys that are ints. -/
structure Ok (n : Nat) (s : St) : Prop where
  ep0 : 0 ≤ s.ep
  ep9 : s.ep ≤ n
  pin0 : ∀ k, 0 ≤ nget s.pins k
  pin9 : ∀ k, nget s.pins k ≤ n
  ret : s.ret.length ≤ n
  ever : s.ever.length ≤ n
  keys : ∀ p ∈ s.ever, (Lit.int .i64 p.1).wf = true
theorem Ok.new : Ok 0 St.new := ⟨by decide, by decide, fun k => by rw [show St.new.pins = [] from rfl, nget_nil]; omega, fun k => by rw [show St.new.pins = [] from rfl, nget_nil]; omega, Nat.le_refl _, Nat.le_refl _, fun p h => by simp [St.new] at h⟩
theorem Ok.mono {n m : Nat} {s : St} (h : Ok n s) (hm : n ≤ m) : Ok m s := ⟨h.ep0, by have := h.ep9; omega, h.pin0, fun k => by have := h.pin9 k; omega, by have := h.ret; omega, by have := h.ever; omega, h.keys⟩
theorem Ok.retire {n : Nat} {s : St} (h : Ok n s) (r : Int) : Ok (n + 1) (s.retire r) := by
  unfold St.retire
  split
  · exact ⟨h.ep0, by have := h.ep9; show s.ep ≤ _; omega, h.pin0, fun k => by have := h.pin9 k; show nget s.pins k ≤ _; omega, by have := lput_len s.ret r s.ep; have := h.ret; show (lput s.ret r s.ep).length ≤ _; omega, by have := h.ever; show s.ever.length ≤ _; omega, h.keys⟩
  · exact h.mono (by omega)
theorem retire_ever (s : St) (r : Int) : (s.retire r).ever = s.ever := by unfold St.retire; split <;> rfl
theorem retire_ep (s : St) (r : Int) : (s.retire r).ep = s.ep := by unfold St.retire; split <;> rfl
theorem retire_pins (s : St) (r : Int) : (s.retire r).pins = s.pins := by unfold St.retire; split <;> rfl
theorem retire_ins (s : St) (r : Int) : (s.retire r).ins = s.ins := by unfold St.retire; split <;> rfl
theorem retire_cur (s : St) (r : Int) : (s.retire r).cur = s.cur := by unfold St.retire; split <;> rfl
theorem Ok.bump {n : Nat} {s : St} (h : Ok n s) (c : Int) : Ok (n + 1) { s with ep := s.ep + 1, cur := c } :=
  ⟨by have := h.ep0; show 0 ≤ s.ep + 1; omega, by have := h.ep9; show s.ep + 1 ≤ _; omega, h.pin0, fun k => by have := h.pin9 k; show nget s.pins k ≤ _; omega, by have := h.ret; show s.ret.length ≤ _; omega, by have := h.ever; show s.ever.length ≤ _; omega, h.keys⟩
theorem Ok.pub1 {n : Nat} {s : St} (h : Ok n s) (r : Int) (hr : (Lit.int .i64 r).wf = true) : Ok (n + 1) (s.pub1 r) :=
  ⟨h.ep0, by have := h.ep9; show s.ep ≤ _; omega, h.pin0, fun k => by have := h.pin9 k; show nget s.pins k ≤ _; omega, by have := ldel_len s.ret r; have := h.ret; show (ldel s.ret r).length ≤ _; omega, by have := lput_len s.ever r true; have := h.ever; show (lput s.ever r true).length ≤ _; omega, fun p hp => by
    rcases lput_keys _ _ _ p hp with e | e
    · rw [e]; exact hr
    · obtain ⟨q, hq, e2⟩ := List.mem_map.1 e
      rw [← e2]; exact h.keys q hq⟩
theorem Ok.publish {n : Nat} {s : St} (h : Ok n s) (r : Int) (hr : (Lit.int .i64 r).wf = true) : Ok (n + 3) (s.publish r) := by
  unfold St.publish
  split
  · exact h.mono (by omega)
  · split
    · exact h.mono (by omega)
    · exact (((h.bump r).retire s.cur).pub1 r hr)
theorem Ok.enter {n : Nat} {s : St} (h : Ok n s) (k : Int) : Ok n (s.enter k) := by
  unfold St.enter
  split
  · exact h
  · exact ⟨h.ep0, h.ep9, h.pin0, h.pin9, h.ret, h.ever, h.keys⟩
theorem Ok.leave {n : Nat} {s : St} (h : Ok n s) (k : Int) : Ok n (s.leave k) := ⟨h.ep0, h.ep9, h.pin0, h.pin9, h.ret, h.ever, h.keys⟩
theorem Ok.pin {n : Nat} {s : St} (h : Ok n s) : Ok (n + 1) s.pin := by
  unfold St.pin
  split
  · exact h.mono (by omega)
  · refine ⟨h.ep0, by have := h.ep9; show s.ep ≤ _; omega, fun k => ?_, fun k => ?_, by have := h.ret; show s.ret.length ≤ _; omega, by have := h.ever; show s.ever.length ≤ _; omega, h.keys⟩
    · show 0 ≤ nget (lput s.pins s.cur _) k
      rw [nget_put]
      have := h.pin0 k; have := h.pin0 s.cur
      split <;> omega
    · show nget (lput s.pins s.cur _) k ≤ _
      rw [nget_put]
      have := h.pin9 k; have := h.pin9 s.cur
      split <;> omega
theorem Ok.unpin {n : Nat} {s : St} (h : Ok n s) (r : Int) : Ok (n + 2) (s.unpin r) := by
  have h1 := h.pin0 r
  have h2 := h.pin9 r
  have hput : ∀ k, 0 ≤ nget (lput s.pins r (nget s.pins r - 1)) k ∨ nget s.pins r = 0 := fun k => by
    rw [nget_put]
    have := h.pin0 k
    split <;> omega
  unfold St.unpin
  split
  · exact h.mono (by omega)
  · rename_i h0
    have q0 : ∀ k, 0 ≤ nget (ldel (lput s.pins r (nget s.pins r - 1)) r) k := fun k => by
      rw [nget_del]
      rcases hput k with h3 | h3
      · split <;> omega
      · omega
    have q9 : ∀ k, nget (ldel (lput s.pins r (nget s.pins r - 1)) r) k ≤ (n : Int) := fun k => by
      rw [nget_del, nget_put]
      have := h.pin9 k
      (repeat' split) <;> omega
    split
    · refine ⟨h.ep0, by have := h.ep9; show s.ep ≤ _; omega, fun k => ?_, fun k => ?_, by have := h.ret; show s.ret.length ≤ _; omega, by have := h.ever; show s.ever.length ≤ _; omega, h.keys⟩
      · rcases hput k with h3 | h3
        · exact h3
        · omega
      · show nget (lput s.pins r _) k ≤ _
        rw [nget_put]
        have := h.pin9 k
        split <;> omega
    · split
      · exact ⟨h.ep0, by have := h.ep9; show s.ep ≤ _; omega, q0, fun k => by have := q9 k; show nget (ldel (lput s.pins r _) r) k ≤ _; omega, by have := h.ret; show s.ret.length ≤ _; omega, by have := h.ever; show s.ever.length ≤ _; omega, h.keys⟩
      · refine Ok.retire (n := n + 1) (s := { s with pins := ldel (lput s.pins r (nget s.pins r - 1)) r, ep := s.ep + 1 }) ⟨by have := h.ep0; show 0 ≤ s.ep + 1; omega, by have := h.ep9; show s.ep + 1 ≤ _; omega, q0, fun k => by have := q9 k; show nget (ldel (lput s.pins r _) r) k ≤ _; omega, by have := h.ret; show s.ret.length ≤ _; omega, by have := h.ever; show s.ever.length ≤ _; omega, h.keys⟩ r
theorem Ok.reclaim {n : Nat} {s : St} (h : Ok n s) : Ok n s.reclaim := ⟨h.ep0, h.ep9, h.pin0, h.pin9, Nat.le_trans (List.length_filter_le _ _) h.ret, h.ever, h.keys⟩
end Go.Proofs.Ytfiehglbpcjkfaa.Hand
