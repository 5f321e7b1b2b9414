/- What the epochs' small calls do (their contracts). -/
import Derived.Test.YtfiehglbpcjkfaaEpBase
namespace Go.Proofs.Ytfiehglbpcjkfaa.Hand
open Go.Proofs Go Go.MapKept Go.RowKit Go.Proofs.YtfiehglbpcjkfaaW.PrintWords Go.Proofs.YtfiehglbpcjkfaaW.PrintLast Go.Proofs.YtfiehglbpcjkfaaW.PrintMore
set_option linter.unusedSectionVars false
set_option linter.unusedVariables false
set_option linter.unusedSimpArgs false
theorem run_swap {P : Program} {f : FuncId} {fn : Func} (hf : P.funcs[f]? = some fn) (hname : (fn.name == "runtime.NumGoroutine") = false) (hb : fn.body.isNone = true) (hn : Extern.findNext fn = none) (k : IntKind)
    (he : Extern.find fn = some (Extern.Atomic.swapT (.int k))) {a : Addr} {x y : Int} {w : World} (hc : w.cell? a = some (.int k x)) (hz : w.frozen? a = false) :
    (callFunc f #[.pointer (some a), .int k y]).run P w = .ok (.value (.int k x)) (w.setCell a (.int k y)) := by
  rw [run_callFunc_extern hf hname hb hn he]
  change (Sem.run P (do
    let a' ← asAddr (.pointer (some a))
    let old ← Extern.Atomic.read (.int k) a'
    store a' (.int k y) .atomic
    pure old) w).andThen _ = _
  simp [Extern.Atomic.read, asAddr, hc, hz, run_store P w a (.int k y) .atomic rfl, Result.andThen]
section
variable {w : World} {H g : Nat} {s : St} {l : List (Int × Int)}
theorem current_c (he : Ep w H s) : Calls Try.prog 24 #[.pointer (some ⟨H + 4, 0, none⟩)] w fun e w' => e = .returned (.int .i64 s.cur) ∧ w' = w := by
  have c0 : w.cell? ⟨H + 4, 0, none⟩ = some (.int .i64 s.cur) := (blk_cell he.cells 0).trans rfl
  have hl := run_call_load (P := Try.prog) Try.func45 (by kernel_rfl) (by kernel_rfl) (by kernel_rfl) .i64 (by kernel_rfl) c0
  clear he
  go_enter Try.func24, Try.ntmps24
  go_wp2
  go_ret
  exact ⟨rfl, rfl⟩
theorem intKey (k : Int) : IsKey (.int .i64) (Value.int .i64 k) := rfl
theorem intInj (a b : Int) (h : Value.int .i64 a = Value.int .i64 b) : a = b := by cases h; rfl
theorem zero3 (w : World) : (zeroValue 3).run Try.prog w = .ok (.int .i64 0) w := by kernel_rfl
theorem zero4 (w : World) : (zeroValue 4).run Try.prog w = .ok (.bool false) w := by kernel_rfl
theorem look_i (h : IM w g l) (k : Int) (w1 : World) (hw : w1.heap[g]? = w.heap[g]?) : (Instr.lookup 50 (.map (some g)) (.int .i64 k) false).run Try.prog w1 = .ok (.int .i64 (nget l k)) w1 := by
  rw [run_look Try.underlying50 Try.underlying3 intKey intInj (h.keep hw) k (zero3 w1) false]
  unfold nget
  cases lget l k <;> rfl
theorem look_iok (h : IM w g l) (k : Int) (w1 : World) (hw : w1.heap[g]? = w.heap[g]?) : (Instr.lookup 50 (.map (some g)) (.int .i64 k) true).run Try.prog w1 = .ok (.tuple #[.int .i64 (nget l k), .bool (lget l k).isSome]) w1 := by
  rw [run_look Try.underlying50 Try.underlying3 intKey intInj (h.keep hw) k (zero3 w1) true]
  unfold nget
  cases lget l k <;> rfl
theorem look_b {l : List (Int × Bool)} (h : BM w g l) (k : Int) (w1 : World) (hw : w1.heap[g]? = w.heap[g]?) : (Instr.lookup 51 (.map (some g)) (.int .i64 k) false).run Try.prog w1 = .ok (.bool ((lget l k).getD false)) w1 := by
  rw [run_look Try.underlying51 Try.underlying3 intKey intInj (h.keep hw) k (zero4 w1) false]
  cases lget l k <;> rfl
theorem heap_alloc_at (w : World) (o : Obj) (k : Nat) : (w.alloc o).heap[k]? = if k = w.heap.size then some o else w.heap[k]? := by
  show (w.heap.push o)[k]? = _
  rw [Array.getElem?_push]
theorem new_c (w : World) : Calls Try.prog 10 #[] w fun e w' => e = .returned (.pointer (some ⟨w.heap.size + 4, 0, none⟩)) ∧ Ep w' w.heap.size St.new ∧ Below w.heap.size w w' ∧ w'.heap.size = w.heap.size + 5 := by
  have hmm := @run_makeMap Try.prog
  go_enter Try.func10, Try.ntmps10
  go_wp2
  go_ret
  refine ⟨rfl, ⟨?_, ⟨#[], 0, ?_, stamped_empty 0, rfl⟩, ⟨#[], 0, ?_, stamped_empty 0, rfl⟩, ⟨#[], 0, ?_, stamped_empty 0, rfl⟩, ⟨#[], 0, ?_, stamped_empty 0, rfl⟩⟩, ?_, by simp⟩
  all_goals try (simp only [heap_alloc_at, World.size_alloc]; (repeat (first | rw [if_pos (by omega)] | rw [if_neg (by omega)])); (try rfl); done)
  · exact below_alloc (below_alloc (below_alloc (below_alloc (below_alloc (Below.refl _ _) _) _) _) _) _
set_option maxRecDepth 100000 in
theorem live_c (he : Ep w H s) (r : Int) : Calls Try.prog 40 #[.pointer (some ⟨H + 4, 0, none⟩), .int .i64 r] w fun e w' => e = .returned (.bool (s.live r)) ∧ w' = w := by
  have c2 : w.cell? ⟨H + 4, 2, none⟩ = some (.map (some H)) := (blk_cell he.cells 2).trans rfl
  have c3 : w.cell? ⟨H + 4, 3, none⟩ = some (.map (some (H + 1))) := (blk_cell he.cells 3).trans rfl
  have l2 := look_i he.pins r w rfl
  have l3 := look_iok he.ret r w rfl
  have hC := Aside0.mk he
  obtain ⟨L, hL0⟩ : ∃ L, Aside0 (L = s.live r) := ⟨_, ⟨rfl⟩⟩
  rw [← hL0.out]
  have hL : Aside0 (L = ((lget s.ret r).isSome || (decide (0 < nget s.pins r) || (decide (r = s.cur) && decide (0 < r))))) := ⟨hL0.out⟩
  clear he hL0
  generalize nget s.pins r = n at l2 hL
  generalize (lget s.ret r).isSome = m at l3 hL
  go_enter Try.func40, Try.ntmps40
  go_wp2_with (first
    | (go_at_call 24; refine (current_c hC.out).mono ?_; rintro e w' ⟨rfl, rfl⟩))
  all_goals (go_ret; refine ⟨?_, rfl⟩; show Ending.returned (.bool _) = _; rw [hL.out]; simp [*])
set_option maxRecDepth 100000 in
theorem gone_c (he : Ep w H s) (r : Int) : Calls Try.prog 27 #[.pointer (some ⟨H + 4, 0, none⟩), .int .i64 r] w fun e w' => e = .returned (.bool (s.gone r)) ∧ w' = w := by
  have c5 : w.cell? ⟨H + 4, 5, none⟩ = some (.map (some (H + 3))) := (blk_cell he.cells 5).trans rfl
  have l5 := look_b he.ever r w rfl
  have hC := Aside0.mk he
  obtain ⟨L, hL0⟩ : ∃ L, Aside0 (L = s.gone r) := ⟨_, ⟨rfl⟩⟩
  rw [← hL0.out]
  have hL : Aside0 (L = ((lget s.ever r).getD false && !s.live r)) := ⟨hL0.out⟩
  clear he hL0
  generalize (lget s.ever r).getD false = n at l5 hL
  go_enter Try.func27, Try.ntmps27
  go_wp2_with (first
    | (go_at_call 40; refine (live_c hC.out r).mono ?_; rintro e w' ⟨rfl, rfl⟩))
  all_goals (go_ret; refine ⟨?_, rfl⟩; show Ending.returned (.bool _) = _; rw [hL.out]; simp [*])
theorem Fr.mk1 {H g : Nat} {w w1 : World} (k : w.grownBy w1 (some g)) (h1 : H ≤ g) (h2 : g < H + 5) : Fr H w w1 := (Fr.refl H w).grown k h1 h2
theorem Ep.upd {w w1 : World} {g : Nat} (he : Ep w H s) (k : w.grownBy w1 (some g)) (j : Nat) (hj : j ≠ g) (h1 : H ≤ j) (h2 : j < H + 5) : w1.heap[j]? = w.heap[j]? :=
  k.block j (by have := he.lt; omega) (fun e => hj (by cases e; rfl))
theorem leave_c (he : Ep w H s) (k : Int) : Calls Try.prog 15 #[.pointer (some ⟨H + 4, 0, none⟩), .int .i64 k] w fun e w' => e = .returned (.tuple #[]) ∧ Ep w' H (s.leave k) ∧ Fr H w w' := by
  have c4 : w.cell? ⟨H + 4, 4, none⟩ = some (.map (some (H + 2))) := (blk_cell he.cells 4).trans rfl
  have hC := Aside0.mk he
  clear he
  go_enter Try.func15, Try.ntmps15
  go_wp2_with (first
    | (at_delete; refine wpList_del rfl _ _ 50 3 rfl Try.underlying50 Try.underlying3 intKey intInj rfl hC.out.ins k rfl ?_; intro w1 h1 hg hs))
  go_end0
  refine ⟨rfl, ⟨?_, ?_, ?_, ?_, ?_⟩, .mk1 hg (by omega) (by omega)⟩
  · exact (hC.out.upd hg _ (by omega) (by omega) (by omega)).trans hC.out.cells
  · exact hC.out.pins.keep (hC.out.upd hg _ (by omega) (by omega) (by omega))
  · exact hC.out.ret.keep (hC.out.upd hg _ (by omega) (by omega) (by omega))
  · exact h1
  · exact hC.out.ever.keep (hC.out.upd hg _ (by omega) (by omega) (by omega))
theorem Ep.pins' {w1 : World} {l : List (Int × Int)} (he : Ep w H s) (k : w.grownBy w1 (some H)) (h : IM w1 H l) : Ep w1 H { s with pins := l } :=
  ⟨(he.upd k _ (by omega) (by omega) (by omega)).trans he.cells, h, he.ret.keep (he.upd k _ (by omega) (by omega) (by omega)), he.ins.keep (he.upd k _ (by omega) (by omega) (by omega)), he.ever.keep (he.upd k _ (by omega) (by omega) (by omega))⟩
theorem Ep.ret' {w1 : World} {l : List (Int × Int)} (he : Ep w H s) (k : w.grownBy w1 (some (H + 1))) (h : IM w1 (H + 1) l) : Ep w1 H { s with ret := l } :=
  ⟨(he.upd k _ (by omega) (by omega) (by omega)).trans he.cells, he.pins.keep (he.upd k _ (by omega) (by omega) (by omega)), h, he.ins.keep (he.upd k _ (by omega) (by omega) (by omega)), he.ever.keep (he.upd k _ (by omega) (by omega) (by omega))⟩
theorem Ep.ins' {w1 : World} {l : List (Int × Int)} (he : Ep w H s) (k : w.grownBy w1 (some (H + 2))) (h : IM w1 (H + 2) l) : Ep w1 H { s with ins := l } :=
  ⟨(he.upd k _ (by omega) (by omega) (by omega)).trans he.cells, he.pins.keep (he.upd k _ (by omega) (by omega) (by omega)), he.ret.keep (he.upd k _ (by omega) (by omega) (by omega)), h, he.ever.keep (he.upd k _ (by omega) (by omega) (by omega))⟩
theorem Ep.ever' {w1 : World} {l : List (Int × Bool)} (he : Ep w H s) (k : w.grownBy w1 (some (H + 3))) (h : BM w1 (H + 3) l) : Ep w1 H { s with ever := l } :=
  ⟨(he.upd k _ (by omega) (by omega) (by omega)).trans he.cells, he.pins.keep (he.upd k _ (by omega) (by omega) (by omega)), he.ret.keep (he.upd k _ (by omega) (by omega) (by omega)), he.ins.keep (he.upd k _ (by omega) (by omega) (by omega)), h⟩
theorem Ep.cur' (he : Ep w H s) (v : Int) : Ep (w.setCell ⟨H + 4, 0, none⟩ (.int .i64 v)) H { s with cur := v } :=
  ⟨blk_put he.cells 0 _ rfl, he.pins.keep (Below.heap_setCell _ _ _ _ (by simp)), he.ret.keep (Below.heap_setCell _ _ _ _ (by simp)), he.ins.keep (Below.heap_setCell _ _ _ _ (by simp)), he.ever.keep (Below.heap_setCell _ _ _ _ (by simp))⟩
theorem Ep.ep' (he : Ep w H s) (v : Int) : Ep (w.setCell ⟨H + 4, 1, none⟩ (.int .i64 v)) H { s with ep := v } :=
  ⟨blk_put he.cells 1 _ rfl, he.pins.keep (Below.heap_setCell _ _ _ _ (by simp)), he.ret.keep (Below.heap_setCell _ _ _ _ (by simp)), he.ins.keep (Below.heap_setCell _ _ _ _ (by simp)), he.ever.keep (Below.heap_setCell _ _ _ _ (by simp))⟩
theorem Ep.drewN (he : Ep w H s) (n : Nat) : Ep (w.drewN n) H s := he.keep (fun _ _ _ => rfl)
set_option maxRecDepth 100000 in
theorem enter_c (he : Ep w H s) (k : Int) : Calls Try.prog 13 #[.pointer (some ⟨H + 4, 0, none⟩), .int .i64 k] w fun e w' => e = .returned (.int .i64 s.cur) ∧ Ep w' H (s.enter k) ∧ Fr H w w' := by
  have c1 : w.cell? ⟨H + 4, 1, none⟩ = some (.int .i64 s.ep) := (blk_cell he.cells 1).trans rfl
  have c4 : w.cell? ⟨H + 4, 4, none⟩ = some (.map (some (H + 2))) := (blk_cell he.cells 4).trans rfl
  have l4 := look_iok he.ins k w rfl
  obtain ⟨o, hU⟩ := run_update Try.underlying50 Try.underlying3 intKey intInj he.ins k s.ep
  have hu := (hU w.drew rfl).1
  have hD : Aside0 (Ep (setMap w.drew (H + 2) o) H { s with ins := lput s.ins k s.ep }) := ⟨Ep.ins' (w := w.drew) (he.drewN 1) (setMap_grown _ _ _) (hU w.drew rfl).2⟩
  have hC := Aside0.mk he
  clear he hU
  by_cases hp : (lget s.ins k).isSome = true
  · rw [show s.enter k = s from if_pos hp]
    rw [hp] at l4
    have hp := Aside0.mk hp
    go_enter Try.func13, Try.ntmps13
    go_wp2_with (first
      | (go_at_call 24; refine (current_c hC.out).mono ?_; rintro e w' ⟨rfl, rfl⟩))
    go_ret
    exact ⟨rfl, hC.out, Fr.refl _ _⟩
  · rw [show s.enter k = { s with ins := lput s.ins k s.ep } from if_neg hp]
    rw [Bool.not_eq_true] at hp
    rw [hp] at l4
    have hp := Aside0.mk hp
    go_enter Try.func13, Try.ntmps13
    go_wp2
    go_region
    go_wp2_with (first
      | (go_at_call 24; refine (current_c hD.out).mono ?_; rintro e w' ⟨rfl, rfl⟩))
    go_ret
    exact ⟨rfl, hD.out, (Fr.refl H w).drew.grown (setMap_grown _ _ _) (by omega) (by omega)⟩
theorem Fr.setCell0 {H j : Nat} {b : World} (v : Value) : Fr H b (b.setCell ⟨H + 4, j, none⟩ v) := (Fr.refl H b).setCell v
set_option maxRecDepth 100000 in
theorem retire_c (he : Ep w H s) (r : Int) : Calls Try.prog 29 #[.pointer (some ⟨H + 4, 0, none⟩), .int .i64 r] w fun e w' => e = .returned (.tuple #[]) ∧ Ep w' H (s.retire r) ∧ Fr H w w' := by
  have c1 : w.cell? ⟨H + 4, 1, none⟩ = some (.int .i64 s.ep) := (blk_cell he.cells 1).trans rfl
  have c2 : w.cell? ⟨H + 4, 2, none⟩ = some (.map (some H)) := (blk_cell he.cells 2).trans rfl
  have c3 : w.cell? ⟨H + 4, 3, none⟩ = some (.map (some (H + 1))) := (blk_cell he.cells 3).trans rfl
  have l2 := look_i he.pins r w rfl
  obtain ⟨o, hU⟩ := run_update Try.underlying50 Try.underlying3 intKey intInj he.ret r s.ep
  have hu := (hU w.drew rfl).1
  have hD : Aside0 (Ep (setMap w.drew (H + 1) o) H { s with ret := lput s.ret r s.ep }) := ⟨Ep.ret' (w := w.drew) (he.drewN 1) (setMap_grown _ _ _) (hU w.drew rfl).2⟩
  have hC := Aside0.mk he
  clear he hU
  unfold St.retire
  generalize nget s.pins r = n at l2 ⊢
  by_cases h1 : 0 < r
  · by_cases h2 : n = 0
    · rw [if_pos ⟨h1, h2⟩]
      go_enter Try.func29, Try.ntmps29
      go_wp2
      go_region
      go_end0
      exact ⟨rfl, hD.out, (Fr.refl H w).drew.grown (setMap_grown _ _ _) (by omega) (by omega)⟩
    · rw [if_neg (fun h => h2 h.2)]
      go_enter Try.func29, Try.ntmps29
      go_wp2
      go_end0
      exact ⟨rfl, hC.out, Fr.refl _ _⟩
  · rw [if_neg (fun h => h1 h.1)]
    go_enter Try.func29, Try.ntmps29
    go_wp2
    go_end0
    exact ⟨rfl, hC.out, Fr.refl _ _⟩
end
end Go.Proofs.Ytfiehglbpcjkfaa.Hand
