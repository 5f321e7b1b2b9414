/- The statement EpochRest: plain facts. -/
import Derived.Test.YtfiehglbpcjkfaaEpH
namespace Go.Proofs.Ytfiehglbpcjkfaa.Hand
open Go.Proofs Go Go.MapKept Go.RowKit Go.Proofs.YtfiehglbpcjkfaaW.PrintWords Go.Proofs.YtfiehglbpcjkfaaW.PrintLast Go.Proofs.YtfiehglbpcjkfaaW.PrintMore
set_option linter.unusedVariables false
set_option linter.unusedSectionVars false
set_option linter.unusedSimpArgs false
theorem pub_keys {s : St} {r x : Int} : x ∈ (s.publish r).ever.map (·.1) ↔ x ∈ s.ever.map (·.1) ∨ (1 ≤ r ∧ r ≠ s.cur ∧ x = r) := by
  rw [← lget_isSome, ← lget_isSome, pub_ever]
  split
  · rename_i h; simp [h]
  · rename_i h; simp [h]
structure Rest (last : Int) (b : Nat) (s : St) : Prop where
  cur : s.cur = last
  ins : s.ins = []
  ok : Ok b s
  ever : ∀ x ∈ s.ever.map (·.1), 1 ≤ x ∧ x ≤ 20
  pinned : ∀ r, 0 < nget s.pins r → r ∈ s.ever.map (·.1)
  cure : 0 < last → last ∈ s.ever.map (·.1)
  last0 : 0 ≤ last
theorem Rest.new : Rest 0 0 St.new := ⟨rfl, rfl, Ok.new, fun x h => by simp [St.new] at h, fun r h => by rw [show St.new.pins = [] from rfl, nget_nil] at h; omega, fun h => by omega, Int.le_refl _⟩
theorem rest_pub {last r : Int} {b : Nat} {s : St} (h : Rest last b s) (h1 : 1 ≤ r) (h2 : r ≤ 20) : Rest r (b + 3) (s.publish r) := by
  refine ⟨pub_cur h1, by rw [pub_ins]; exact h.ins, h.ok.publish r (WalkArith.wf_i64 (by omega)), fun x hx => ?_, fun x hx => ?_, fun _ => ?_, by omega⟩
  · rw [pub_keys] at hx
    rcases hx with hx | ⟨_, _, hx⟩
    · exact h.ever x hx
    · omega
  · rw [pub_pins] at hx
    rw [pub_keys]
    exact .inl (h.pinned x hx)
  · rw [pub_keys]
    by_cases e : r = s.cur
    · left
      rw [e, h.cur]
      exact h.cure (by rw [← h.cur, ← e]; omega)
    · exact .inr ⟨h1, e, rfl⟩
theorem rest_pin {last : Int} {b : Nat} {s : St} (h : Rest last b s) (h1 : 1 ≤ last) : Rest last (b + 1) s.pin ∧ s.pinErr = 0 ∧ ∀ x, nget s.pin.pins x = if x = last then nget s.pins last + 1 else nget s.pins x := by
  have hc : ¬ s.cur = 0 := by rw [h.cur]; omega
  have e1 : s.pin = { s with pins := lput s.pins s.cur (nget s.pins s.cur + 1) } := by unfold St.pin; rw [if_neg hc]
  have hok := h.ok.pin
  have hn : ∀ x, nget s.pin.pins x = if x = last then nget s.pins last + 1 else nget s.pins x := by
    intro x
    rw [e1]
    show nget (lput s.pins s.cur _) x = _
    rw [nget_put, h.cur]
  refine ⟨⟨?_, by rw [pin_ins]; exact h.ins, hok, ?_, ?_, ?_, h.last0⟩, by unfold St.pinErr; rw [if_neg hc], hn⟩
  · rw [e1]; exact h.cur
  · rw [e1]; exact h.ever
  · intro r hr
    rw [hn] at hr
    rw [e1]
    show r ∈ s.ever.map _
    split at hr
    · rename_i e; rw [e]; exact h.cure (by omega)
    · exact h.pinned r hr
  · rw [e1]; exact h.cure
theorem rest_unpin {last r : Int} {b : Nat} {s : St} (h : Rest last b s) (h1 : 0 < nget s.pins r) : Rest last (b + 2) (s.unpin r) ∧ s.unpinErr r = 0 ∧ ∀ x, nget (s.unpin r).pins x = if x = r then nget s.pins r - 1 else nget s.pins x := by
  have hn : ∀ x, nget (s.unpin r).pins x = if x = r then nget s.pins r - 1 else nget s.pins x := by
    intro x
    unfold St.unpin
    rw [if_neg (by omega)]
    split
    · show nget (lput s.pins r _) x = _
      rw [nget_put]
    · rename_i h2
      have h3 : nget s.pins r - 1 = 0 := by omega
      have : nget (ldel (lput s.pins r (nget s.pins r - 1)) r) x = if x = r then nget s.pins r - 1 else nget s.pins x := by
        rw [nget_del, nget_put, h3]
        split <;> rfl
      split
      · exact this
      · rw [retire_pins]; exact this
  refine ⟨⟨by rw [unpin_cur]; exact h.cur, by rw [unpin_ins]; exact h.ins, h.ok.unpin r, by rw [unpin_ever]; exact h.ever, fun x hx => ?_, by rw [unpin_ever]; exact h.cure, h.last0⟩, by unfold St.unpinErr; rw [if_neg (by omega)], hn⟩
  rw [hn] at hx
  rw [unpin_ever]
  split at hx
  · rename_i e; rw [e]; exact h.pinned r h1
  · exact h.pinned x hx
theorem unpin_none {s : St} {r : Int} (h : nget s.pins r = 0) : s.unpin r = s ∧ s.unpinErr r = 9 := ⟨by unfold St.unpin; rw [if_pos h], by unfold St.unpinErr; rw [if_pos h]⟩
theorem rest_reclaim {last : Int} {b : Nat} {s : St} (h : Rest last b s) : Rest last b s.reclaim ∧ s.reclaim.ret = [] := ⟨⟨h.cur, h.ins, h.ok.reclaim, h.ever, h.pinned, h.cure, h.last0⟩, reclaim_none h.ins⟩
theorem rest_again {last : Int} {b : Nat} {s : St} (h : Rest last b s) (hr : s.ret = []) : s.freed = [] ∧ s.reclaim = s := by
  refine ⟨by rw [freed_none h.ins, hr]; simp, ?_⟩
  unfold St.reclaim
  rw [hr]
  show { s with ret := [] } = s
  rw [← hr]
/-- What is to be live. -/
def wants (last : Int) (s : St) (j : Nat) : List Int := ((List.range' 1 j).map fun k : Nat => (k : Int)).filter fun r => decide (0 < nget s.pins r) || decide (r = last)
theorem wants_succ (last : Int) (s : St) (j : Nat) : wants last s (j + 1) = wants last s j ++ if (decide (0 < nget s.pins ((j + 1 : Nat) : Int)) || decide (((j + 1 : Nat) : Int) = last)) = true then [((j + 1 : Nat) : Int)] else [] := by
  unfold wants
  rw [List.range'_concat, List.map_append, List.filter_append]
  congr 1
  rw [show 1 + 1 * j = j + 1 by omega, List.map_cons, List.map_nil, List.filter_cons]
  rfl
theorem rest_lives {last : Int} {b : Nat} {s : St} (h : Rest last b s) (hr : s.ret = []) (hn : (s.ever.map (·.1)).Nodup) : s.lives = wants last s 20 := by
  have hlive : ∀ r, s.live r = (decide (0 < nget s.pins r) || (decide (r = last) && decide (0 < r))) := by
    intro r
    unfold St.live
    rw [hr, h.cur]
    rfl
  have tr : ∀ a b c : Int, decide (a ≤ b) = true → decide (b ≤ c) = true → decide (a ≤ c) = true := fun a b c h1 h2 => by simp only [decide_eq_true_eq] at *; omega
  have tot : ∀ a b : Int, (decide (a ≤ b) || decide (b ≤ a)) = true := fun a b => by simp only [Bool.or_eq_true, decide_eq_true_eq]; omega
  have p1 : s.lives.Pairwise (fun a b => decide (a ≤ b) = true) := (List.pairwise_mergeSort tr tot _).sublist List.filter_sublist
  have p2 : (wants last s 20).Pairwise (fun a b => decide (a ≤ b) = true) := by
    refine List.Pairwise.sublist List.filter_sublist ?_
    rw [List.pairwise_map]
    exact (List.pairwise_lt_range' (s := 1) (n := 20) (step := 1)).imp fun {x y} h => by simp; omega
  have n1 : s.lives.Nodup := ((List.mergeSort_perm _ _).nodup_iff.2 hn).sublist List.filter_sublist
  have n2 : (wants last s 20).Nodup := by
    refine List.Nodup.sublist List.filter_sublist ?_
    unfold List.Nodup
    rw [List.pairwise_map]
    exact (List.pairwise_lt_range' (s := 1) (n := 20) (step := 1)).imp fun {x y} h => by simp; omega
  have hp : s.lives.Perm (wants last s 20) := by
    refine (List.perm_ext_iff_of_nodup n1 n2).2 fun x => ?_
    unfold St.lives wants
    rw [List.mem_filter, List.mem_filter, (List.mergeSort_perm _ _).mem_iff, hlive]
    simp only [Bool.or_eq_true, Bool.and_eq_true, decide_eq_true_eq]
    constructor
    · rintro ⟨h1, h2⟩
      have h3 := h.ever x h1
      exact ⟨List.mem_map.2 ⟨x.toNat, by rw [List.mem_range'_1]; omega, by omega⟩, by omega⟩
    · rintro ⟨h1, h2⟩
      obtain ⟨k, hk, rfl⟩ := List.mem_map.1 h1
      rw [List.mem_range'_1] at hk
      rcases h2 with h2 | h2
      · exact ⟨h.pinned _ h2, .inl h2⟩
      · exact ⟨by rw [h2]; exact h.cure (by omega), .inr ⟨h2, by omega⟩⟩
  exact List.Perm.eq_of_pairwise (le := fun a b => decide (a ≤ b) = true) (fun a b _ _ h1 h2 => by simp only [decide_eq_true_eq] at *; omega) p1 p2 hp
/-- The row of pins, as the law counts them. -/
structure PL (pl : List Int) (s : St) : Prop where
  len : pl.length = 21
  at_ : ∀ j : Nat, 1 ≤ j → j ≤ 20 → pl.getD j 0 = nget s.pins (j : Int)
theorem PL.new : PL (List.replicate 21 0) St.new := ⟨by simp, fun j h1 h2 => by
  rw [show St.new.pins = [] from rfl, nget_nil, List.getD_eq_getElem?_getD, List.getElem?_replicate]
  split <;> rfl⟩
theorem PL.same {pl : List Int} {s t : St} (h : PL pl s) (e : t.pins = s.pins) : PL pl t := ⟨h.len, fun j h1 h2 => by rw [e]; exact h.at_ j h1 h2⟩
theorem PL.set {pl : List Int} {s t : St} (h : PL pl s) {r : Nat} {v : Int} (h1 : 1 ≤ r) (h2 : r ≤ 20) (e : ∀ x : Int, nget t.pins x = if x = (r : Int) then v else nget s.pins x) : PL (pl.set r v) t := by
  refine ⟨by simp [h.len], fun j h3 h4 => ?_⟩
  rw [e, List.getD_eq_getElem?_getD, List.getElem?_set]
  by_cases hj : r = j
  · subst hj
    rw [if_pos rfl, if_pos rfl, if_pos (by rw [h.len]; omega)]
    rfl
  · rw [if_neg hj, if_neg (by omega), ← h.at_ j h3 h4, List.getD_eq_getElem?_getD]
abbrev PRow (w : World) (base G : Nat) (pl : List Int) : Prop := w.ownsRow base 3 1 (.slice (some ⟨G, 0, none⟩) 21 21) 21 (nums .i64 pl)
theorem prow_at {w : World} {base G : Nat} {pl : List Int} (h : PRow w base G pl) (r : Nat) (hr : r < 21) : w.cell? ⟨G, r, none⟩ = some (.int .i64 (pl.getD r 0)) ∧ w.frozen? ⟨G, r, none⟩ = false := by
  have := own_at h (r : Int) (by omega) (by omega)
  rw [Int.toNat_natCast] at this
  exact this
theorem prow_set {w : World} {base G : Nat} {pl : List Int} (h : PRow w base G pl) (r : Nat) (x : Int) : PRow (w.setCell ⟨G, r, none⟩ (.int .i64 x)) base G (pl.set r x) ∧ w.grownBy (w.setCell ⟨G, r, none⟩ (.int .i64 x)) (some G) := by
  have := own_store h (r : Int) x
  rw [Int.toNat_natCast] at this
  exact this
theorem prow_fr {w w1 : World} {H G : Nat} {pl : List Int} (h : PRow w (H + 5) G pl) (hF : Fr H w w1) : PRow w1 (H + 5) G pl := own_fr h (fun k h1 h2 => hF.block k h2 (.inr h1))
theorem prow_ge {w : World} {base G : Nat} {pl : List Int} (h : PRow w base G pl) : base ≤ G ∧ G < w.heap.size := by
  rcases h.2 with ⟨h0, _⟩ | ⟨g', cap', cur, hv, hg, hb, _⟩
  · cases h0
  · cases hv
    exact ⟨hg, (Array.getElem?_eq_some_iff.1 hb).1⟩
theorem Ep.grown {w w1 : World} {H G : Nat} {s : St} (h : Ep w H s) (hg : w.grownBy w1 (some G)) (hG : H + 5 ≤ G) : Ep w1 H s := h.keep (fun j h1 h2 => hg.block j (by have := h.lt; omega) (fun e => by cases e; omega))
end Go.Proofs.Ytfiehglbpcjkfaa.Hand
