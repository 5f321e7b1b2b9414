/- The statement EpochHolds: plain facts. -/
import Derived.Test.YtfiehglbpcjkfaaEpK
namespace Go.Proofs.Ytfiehglbpcjkfaa.Hand
open Go.Proofs Go Go.MapKept Go.RowKit Go.Proofs.YtfiehglbpcjkfaaW.PrintWords Go.Proofs.YtfiehglbpcjkfaaW.PrintLast Go.Proofs.YtfiehglbpcjkfaaW.PrintMore
set_option linter.unusedVariables false
set_option linter.unusedSectionVars false
set_option linter.unusedSimpArgs false
theorem lget_filter {κ β : Type} [DecidableEq κ] {q : κ × β → Bool} {k : κ} {v : β} : ∀ {l : List (κ × β)}, lget l k = some v → q (k, v) = true → lget (l.filter q) k = some v
  | [], h, _ => by cases h
  | p :: l, h, hq => by
    unfold lget at h ⊢
    by_cases hp : p.1 = k
    · rw [List.find?_cons_of_pos (by simpa using hp)] at h
      have h2 : p.2 = v := by simpa using h
      have e : p = (k, v) := by rw [← hp, ← h2]
      rw [List.filter_cons_of_pos (by rw [e]; exact hq), List.find?_cons_of_pos (by simpa using hp)]
      exact h
    · rw [List.find?_cons_of_neg (by simpa using hp)] at h
      have ih : ((l.filter q).find? (fun p => decide (p.1 = k))).map (·.2) = some v := lget_filter (l := l) h hq
      by_cases hc : q p = true
      · rw [List.filter_cons_of_pos hc, List.find?_cons_of_neg (by simpa using hp)]
        exact ih
      · rw [List.filter_cons_of_neg hc]
        exact ih
/-- What is always so. -/
structure Base (b : Nat) (s : St) : Prop where
  ok : Ok b s
  ever : ∀ p ∈ s.ever, 1 ≤ p.1
  cur : 0 ≤ s.cur
theorem Base.new : Base 0 St.new := ⟨Ok.new, fun p h => by simp [St.new] at h, by decide⟩
theorem Base.mono {b c : Nat} {s : St} (h : Base b s) (hc : b ≤ c) : Base c s := ⟨h.ok.mono hc, h.ever, h.cur⟩
theorem Base.pub {b : Nat} {s : St} (h : Base b s) (r : Int) (hr : (Lit.int .i64 r).wf = true) : Base (b + 3) (s.publish r) := by
  refine ⟨h.ok.publish r hr, ?_, ?_⟩
  · unfold St.publish
    split
    · exact h.ever
    · split
      · exact h.ever
      · intro p hp
        have hp : p ∈ lput (St.retire _ _).ever r true := hp
        rw [retire_ever] at hp
        rcases lput_keys _ _ _ p hp with e | e
        · omega
        · obtain ⟨q, hq, e2⟩ := List.mem_map.1 e
          rw [← e2]; exact h.ever q hq
  · unfold St.publish
    split
    · exact h.cur
    · split
      · exact h.cur
      · show 0 ≤ (St.retire _ _).cur
        rw [retire_cur]
        show 0 ≤ r
        omega
theorem Base.enter {b : Nat} {s : St} (h : Base b s) (k : Int) : Base (b + 3) (s.enter k) := by
  refine ⟨(h.ok.enter k).mono (by omega), ?_, ?_⟩ <;> (unfold St.enter; split)
  · exact h.ever
  · exact h.ever
  · exact h.cur
  · exact h.cur
theorem Base.leave {b : Nat} {s : St} (h : Base b s) (k : Int) : Base (b + 3) (s.leave k) := ⟨(h.ok.leave k).mono (by omega), h.ever, h.cur⟩
theorem Base.pin {b : Nat} {s : St} (h : Base b s) : Base (b + 3) s.pin := by
  refine ⟨h.ok.pin.mono (by omega), ?_, ?_⟩ <;> (unfold St.pin; split)
  · exact h.ever
  · exact h.ever
  · exact h.cur
  · exact h.cur
theorem unpin_ever (s : St) (r : Int) : (s.unpin r).ever = s.ever := by
  unfold St.unpin
  split
  · rfl
  · split
    · rfl
    · split
      · rfl
      · rw [retire_ever]
theorem unpin_cur (s : St) (r : Int) : (s.unpin r).cur = s.cur := by
  unfold St.unpin
  split
  · rfl
  · split
    · rfl
    · split
      · rfl
      · rw [retire_cur]
theorem unpin_ins (s : St) (r : Int) : (s.unpin r).ins = s.ins := by
  unfold St.unpin
  split
  · rfl
  · split
    · rfl
    · split
      · rfl
      · rw [retire_ins]
theorem pin_ins (s : St) : s.pin.ins = s.ins := by unfold St.pin; split <;> rfl
theorem Base.unpin {b : Nat} {s : St} (h : Base b s) (r : Int) : Base (b + 3) (s.unpin r) :=
  ⟨(h.ok.unpin r).mono (by omega), by rw [unpin_ever]; exact h.ever, by rw [unpin_cur]; exact h.cur⟩
theorem Base.reclaim {b : Nat} {s : St} (h : Base b s) : Base (b + 3) s.reclaim := ⟨h.ok.reclaim.mono (by omega), h.ever, h.cur⟩
/-- The worker 1000 is not inside. -/
def NoK (s : St) : Prop := lget s.ins 1000 = none
theorem NoK.pub {s : St} (h : NoK s) (r : Int) : NoK (s.publish r) := by unfold NoK; rw [pub_ins]; exact h
theorem NoK.enter {s : St} (h : NoK s) {k : Int} (hk : k ≠ 1000) : NoK (s.enter k) := by
  unfold NoK St.enter
  split
  · exact h
  · show lget (lput s.ins k s.ep) 1000 = none
    rw [lget_put, if_neg (fun e => hk e.symm)]
    exact h
theorem NoK.leave {s : St} (h : NoK s) (k : Int) : NoK (s.leave k) := by
  show lget (ldel s.ins k) 1000 = none
  rw [lget_del]
  split
  · rfl
  · exact h
theorem NoK.pin {s : St} (h : NoK s) : NoK s.pin := by unfold NoK; rw [pin_ins]; exact h
theorem NoK.unpin {s : St} (h : NoK s) (r : Int) : NoK (s.unpin r) := by unfold NoK; rw [unpin_ins]; exact h
theorem NoK.reclaim {s : St} (h : NoK s) : NoK s.reclaim := h
/-- The worker 1000 came in the epoch e0, and found f. -/
structure Hold (f e0 : Int) (s : St) : Prop where
  inn : lget s.ins 1000 = some e0
  ep : e0 ≤ s.ep
  f0 : 0 ≤ f
  live : 0 < f → f = s.cur ∨ 0 < nget s.pins f ∨ ∃ e, lget s.ret f = some e ∧ e0 < e
theorem Hold.start {s : St} (h : NoK s) (hc : 0 ≤ s.cur) : Hold s.cur s.ep (s.enter 1000) := by
  have e1 : s.enter 1000 = { s with ins := lput s.ins 1000 s.ep } := by
    unfold St.enter
    rw [if_neg (by rw [show lget s.ins 1000 = none from h]; simp)]
  rw [e1]
  exact ⟨by show lget (lput s.ins 1000 s.ep) 1000 = _; rw [lget_put, if_pos rfl], Int.le_refl _, hc, fun _ => .inl rfl⟩
theorem hold_retire {f e0 : Int} {s : St} (r : Int) (hp : ∀ k, 0 ≤ nget s.pins k) (he : e0 < s.ep) (h : 0 < f → f = r ∨ f = s.cur ∨ 0 < nget s.pins f ∨ ∃ e, lget s.ret f = some e ∧ e0 < e) :
    0 < f → f = (s.retire r).cur ∨ 0 < nget (s.retire r).pins f ∨ ∃ e, lget (s.retire r).ret f = some e ∧ e0 < e := by
  intro hf
  rw [retire_cur, retire_pins]
  rcases h hf with h1 | h1 | h1 | ⟨e, h1, h2⟩
  · subst h1
    have := hp f
    by_cases h0 : nget s.pins f = 0
    · right; right
      unfold St.retire
      rw [if_pos ⟨hf, h0⟩]
      exact ⟨s.ep, by show lget (lput s.ret f s.ep) f = _; rw [lget_put, if_pos rfl], he⟩
    · right; left; omega
  · exact .inl h1
  · exact .inr (.inl h1)
  · right; right
    unfold St.retire
    split
    · by_cases hr : f = r
      · exact ⟨s.ep, by show lget (lput s.ret r s.ep) f = _; rw [lget_put, if_pos hr], he⟩
      · exact ⟨e, by show lget (lput s.ret r s.ep) f = _; rw [lget_put, if_neg hr]; exact h1, h2⟩
    · exact ⟨e, h1, h2⟩
theorem Hold.pub {f e0 : Int} {b : Nat} {s : St} (h : Hold f e0 s) (hb : Base b s) (r : Int) : Hold f e0 (s.publish r) := by
  refine ⟨by rw [pub_ins]; exact h.inn, ?_, h.f0, ?_⟩
  · unfold St.publish
    split
    · exact h.ep
    · split
      · exact h.ep
      · show e0 ≤ (St.retire _ _).ep
        rw [retire_ep]
        have := h.ep
        show e0 ≤ s.ep + 1
        omega
  · unfold St.publish
    split
    · exact h.live
    · split
      · exact h.live
      · intro hf
        have hr := hold_retire (f := f) (e0 := e0) (s := { s with ep := s.ep + 1, cur := r }) s.cur hb.ok.pin0 (by have := h.ep; show e0 < s.ep + 1; omega) (fun hf => by
          rcases h.live hf with h1 | h1 | h1
          · exact .inl h1
          · exact .inr (.inr (.inl h1))
          · exact .inr (.inr (.inr h1))) hf
        rcases hr with h1 | h1 | ⟨e, h1, h2⟩
        · exact .inl h1
        · exact .inr (.inl h1)
        · by_cases hfr : f = r
          · left
            show f = (St.retire _ _).cur
            rw [retire_cur]
            exact hfr
          · right; right
            exact ⟨e, by show lget (ldel (St.retire _ _).ret r) f = _; rw [lget_del, if_neg hfr]; exact h1, h2⟩
theorem Hold.enter {f e0 : Int} {s : St} (h : Hold f e0 s) {k : Int} (hk : k ≠ 1000) : Hold f e0 (s.enter k) := by
  unfold St.enter
  split
  · exact h
  · exact ⟨by show lget (lput s.ins k s.ep) 1000 = _; rw [lget_put, if_neg (fun e => hk e.symm)]; exact h.inn, h.ep, h.f0, h.live⟩
theorem Hold.leave {f e0 : Int} {s : St} (h : Hold f e0 s) {k : Int} (hk : k ≠ 1000) : Hold f e0 (s.leave k) :=
  ⟨by show lget (ldel s.ins k) 1000 = _; rw [lget_del, if_neg (fun e => hk e.symm)]; exact h.inn, h.ep, h.f0, h.live⟩
theorem Hold.pin {f e0 : Int} {b : Nat} {s : St} (h : Hold f e0 s) (hb : Base b s) : Hold f e0 s.pin := by
  unfold St.pin
  split
  · exact h
  · refine ⟨h.inn, h.ep, h.f0, fun hf => ?_⟩
    rcases h.live hf with h1 | h1 | h1
    · exact .inl h1
    · right; left
      show 0 < nget (lput s.pins s.cur _) f
      rw [nget_put]
      have := hb.ok.pin0 s.cur
      split <;> omega
    · exact .inr (.inr h1)
theorem Hold.unpin {f e0 : Int} {b : Nat} {s : St} (h : Hold f e0 s) (hb : Base b s) (r : Int) : Hold f e0 (s.unpin r) := by
  have hp0 := hb.ok.pin0
  unfold St.unpin
  split
  · exact h
  · rename_i h0
    split
    · rename_i h1
      refine ⟨h.inn, h.ep, h.f0, fun hf => ?_⟩
      rcases h.live hf with h2 | h2 | h2
      · exact .inl h2
      · right; left
        show 0 < nget (lput s.pins r _) f
        rw [nget_put]
        split
        · exact h1
        · exact h2
      · exact .inr (.inr h2)
    · have hn : ∀ k, nget (ldel (lput s.pins r (nget s.pins r - 1)) r) k = if k = r then 0 else nget s.pins k := fun k => by
        rw [nget_del, nget_put]
        split
        · rfl
        · rfl
      split
      · rename_i hc
        refine ⟨h.inn, h.ep, h.f0, fun hf => ?_⟩
        rcases h.live hf with h2 | h2 | h2
        · exact .inl h2
        · by_cases hfr : f = r
          · left; show f = s.cur; omega
          · right; left
            show 0 < nget (ldel (lput s.pins r (nget s.pins r - 1)) r) f
            rw [hn, if_neg hfr]
            exact h2
        · exact .inr (.inr h2)
      · refine ⟨by rw [retire_ins]; exact h.inn, by rw [retire_ep]; have := h.ep; show e0 ≤ s.ep + 1; omega, h.f0, ?_⟩
        refine hold_retire (s := { s with pins := ldel (lput s.pins r (nget s.pins r - 1)) r, ep := s.ep + 1 }) r (fun k => ?_) (by have := h.ep; show e0 < s.ep + 1; omega) (fun hf => ?_)
        · show 0 ≤ nget (ldel (lput s.pins r (nget s.pins r - 1)) r) k
          rw [hn]
          have := hp0 k
          split <;> omega
        · rcases h.live hf with h2 | h2 | h2
          · exact .inr (.inl h2)
          · by_cases hfr : f = r
            · exact .inl hfr
            · right; right; left
              show 0 < nget (ldel (lput s.pins r (nget s.pins r - 1)) r) f
              rw [hn, if_neg hfr]
              exact h2
          · exact .inr (.inr (.inr h2))
theorem Hold.reclaim {f e0 : Int} {s : St} (h : Hold f e0 s) : Hold f e0 s.reclaim := by
  refine ⟨h.inn, h.ep, h.f0, fun hf => ?_⟩
  rcases h.live hf with h2 | h2 | ⟨e, h2, h3⟩
  · exact .inl h2
  · exact .inr (.inl h2)
  · right; right
    refine ⟨e, lget_filter h2 ?_, h3⟩
    show held s.ins e = true
    exact List.any_eq_true.2 ⟨(1000, e0), lget_mem h.inn, by simpa using h3⟩
theorem Hold.gone {f e0 : Int} {b : Nat} {s : St} (h : Hold f e0 s) (hb : Base b s) : s.gone f = false := by
  by_cases hf : 0 < f
  · refine gone_of_live ?_
    rcases h.live hf with h2 | h2 | ⟨e, h2, h3⟩
    · exact live_of_cur h2 hf
    · exact live_of_pin h2
    · exact live_of_ret (by rw [h2]; rfl)
  · have : lget s.ever f = none := by
      cases hl : lget s.ever f with
      | none => rfl
      | some v =>
        have := hb.ever _ (lget_mem hl)
        simp at this
        omega
    simp [St.gone, this]
theorem and511 (n : Int) : Go.bits .and .i64 n 511 = n % 512 := by
  have h127 : (BitVec.ofInt 64 511).toNat = 2 ^ 9 - 1 := by decide
  have key : (BitVec.ofInt 64 n &&& BitVec.ofInt 64 511).toNat = (n % ((2 ^ 64 : Nat) : Int)).toNat % 2 ^ 9 := by
    rw [BitVec.toNat_and, BitVec.toNat_ofInt, h127, Nat.and_two_pow_sub_one_eq_mod]
  show IntKind.i64.wrap ((BitVec.ofInt 64 n &&& BitVec.ofInt 64 511).toNat : Nat) = n % 512
  rw [key, IntKind.wrap_i64]
  omega
theorem few511 (n : Int) : ∃ m : Int, Go.bits .and .i64 n 511 = m ∧ 0 ≤ m ∧ m < 512 := ⟨n % 512, and511 n, Int.emod_nonneg _ (by omega), Int.emod_lt_of_pos _ (by omega)⟩
end Go.Proofs.Ytfiehglbpcjkfaa.Hand
