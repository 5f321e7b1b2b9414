/- The contracts, once more, with the new state and the answer under names of the caller's. -/
import Derived.Test.YtfiehglbpcjkfaaEpR
namespace Go.Proofs.Ytfiehglbpcjkfaa.Hand
open Go.Proofs Go Go.MapKept Go.RowKit Go.Proofs.YtfiehglbpcjkfaaW.PrintWords Go.Proofs.YtfiehglbpcjkfaaW.PrintLast Go.Proofs.YtfiehglbpcjkfaaW.PrintMore
set_option linter.unusedSectionVars false
set_option linter.unusedVariables false
set_option linter.unusedSimpArgs false
section
variable {w w0 w1 : World} {H H2 : Nat} {s s' : St} {c v n : Int} {b : Bool} {L : List Int}
theorem publish_v (he : Ep w H s) (r : Int) (h0 : 0 ≤ s.ep) (h9 : s.ep ≤ 4611686018427387904) (hs : s.publish r = s') (hv : pubErr r = v) : Calls Try.prog 11 #[.pointer (some ⟨H + 4, 0, none⟩), .int .i64 r] w fun e w' => e = .returned (.int .i64 v) ∧ Ep w' H s' ∧ Fr H w w' := by
  subst hs hv
  exact publish_c he r h0 h9
theorem enter_v (he : Ep w H s) (k : Int) (hc : s.cur = c) (hs : s.enter k = s') : Calls Try.prog 13 #[.pointer (some ⟨H + 4, 0, none⟩), .int .i64 k] w fun e w' => e = .returned (.int .i64 c) ∧ Ep w' H s' ∧ Fr H w w' := by
  subst hs hc
  exact enter_c he k
theorem leave_v (he : Ep w H s) (k : Int) (hs : s.leave k = s') : Calls Try.prog 15 #[.pointer (some ⟨H + 4, 0, none⟩), .int .i64 k] w fun e w' => e = .returned (.tuple #[]) ∧ Ep w' H s' ∧ Fr H w w' := by
  subst hs
  exact leave_c he k
theorem pin_v (he : Ep w H s) (h0 : 0 ≤ nget s.pins s.cur) (h9 : nget s.pins s.cur ≤ 4611686018427387904) (hc : s.cur = c) (hv : s.pinErr = v) (hs : s.pin = s') : Calls Try.prog 17 #[.pointer (some ⟨H + 4, 0, none⟩)] w fun e w' => e = .returned (.tuple #[.int .i64 c, .int .i64 v]) ∧ Ep w' H s' ∧ Fr H w w' := by
  subst hs hc hv
  exact pin_c he h0 h9
theorem unpin_v (he : Ep w H s) (r : Int) (h0 : 0 ≤ s.ep) (h9 : s.ep ≤ 4611686018427387904) (p0 : 0 ≤ nget s.pins r) (p9 : nget s.pins r ≤ 4611686018427387904) (hv : s.unpinErr r = v) (hs : s.unpin r = s') : Calls Try.prog 19 #[.pointer (some ⟨H + 4, 0, none⟩), .int .i64 r] w fun e w' => e = .returned (.int .i64 v) ∧ Ep w' H s' ∧ Fr H w w' := by
  subst hs hv
  exact unpin_c he r h0 h9 p0 p9
theorem reclaim_v (he : Ep w H s) (hl : s.ret.length ≤ 1000000) (hf : s.freed = L) (hn : (L.length : Int) = n) (hs : s.reclaim = s') : Calls Try.prog 21 #[.pointer (some ⟨H + 4, 0, none⟩)] w fun e w' => ∃ A c, e = .returned (.slice A L.length c) ∧ L.length ≤ c ∧ Kd.C (Kd.int .i64) w' A L.length L ∧ Ep w' H s' ∧ Fr H w w' := by
  subst hs hf
  exact reclaim_c he hl
theorem current_v (he : Ep w H s) (hc : s.cur = c) : Calls Try.prog 24 #[.pointer (some ⟨H + 4, 0, none⟩)] w fun e w' => e = .returned (.int .i64 c) ∧ w' = w := by
  subst hc
  exact current_c he
theorem gone_v (he : Ep w H s) (r : Int) (hg : s.gone r = b) : Calls Try.prog 27 #[.pointer (some ⟨H + 4, 0, none⟩), .int .i64 r] w fun e w' => e = .returned (.bool b) ∧ w' = w := by
  subst hg
  exact gone_c he r
theorem lives_v (he : Ep w H s) (hw : ∀ p ∈ s.ever, (Lit.int .i64 p.1).wf = true) (hl : s.ever.length ≤ 1000000) (hL : s.lives = L) :
    Calls Try.prog 25 #[.pointer (some ⟨H + 4, 0, none⟩)] w fun e w' => ∃ A c, e = .returned (.slice A L.length c) ∧ L.length ≤ c ∧ Kd.C (Kd.int .i64) w' A L.length L ∧ Below w.heap.size w w' := by
  subst hL
  exact lives_c he hw hl
theorem Ep.other (h : Ep w H s) (hF : Fr H2 w w1) (hH : H + 5 ≤ H2) : Ep w1 H s := h.keep (fun j h1 h2 => hF.block j (by have := h.lt; omega) (.inl (by omega)))
theorem Ep.below (h : Ep w H s) (hb : Below w.heap.size w w1) : Ep w1 H s := h.keep (fun j h1 h2 => hb.block j (by have := h.lt; omega))
theorem below_fr (h : Below w0.heap.size w0 w) (hF : Fr H w w1) (hH : w0.heap.size ≤ H) : Below w0.heap.size w0 w1 :=
  ⟨hF.os.trans h.os, hF.tape.trans h.tape, hF.output.trans h.output, Nat.le_trans h.size hF.size, fun k hk => (hF.block k (by have := h.size; omega) (.inl (by omega))).trans (h.block k hk)⟩
end
end Go.Proofs.Ytfiehglbpcjkfaa.Hand
