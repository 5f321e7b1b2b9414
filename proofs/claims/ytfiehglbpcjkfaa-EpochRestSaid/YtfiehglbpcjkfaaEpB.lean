/- Publish, Pin, Unpin. -/
import Derived.Test.YtfiehglbpcjkfaaEpA
namespace Go.Proofs.Ytfiehglbpcjkfaa.Hand
open Go.Proofs Go Go.MapKept Go.RowKit Go.Proofs.YtfiehglbpcjkfaaW.PrintWords Go.Proofs.YtfiehglbpcjkfaaW.PrintLast Go.Proofs.YtfiehglbpcjkfaaW.PrintMore
set_option linter.unusedSectionVars false
set_option linter.unusedVariables false
set_option linter.unusedSimpArgs false
section
variable {w : World} {H g : Nat} {s : St} {l : List (Int × Int)}
theorem wrap_add1 {n : Int} (h0 : -4611686018427387904 ≤ n) (h1 : n ≤ 4611686018427387904) : wrap64 (n + 1) = n + 1 := by unfold wrap64; omega
theorem wrap_sub1 {n : Int} (h0 : -4611686018427387904 ≤ n) (h1 : n ≤ 4611686018427387904) : wrap64 (n - 1) = n - 1 := by unfold wrap64; omega
theorem swap_c (he : Ep w H s) (r : Int) : Calls Try.prog 30 #[.pointer (some ⟨H + 4, 0, none⟩), .int .i64 r] w fun e w' => e = .returned (.int .i64 s.cur) ∧ Ep w' H { s with cur := r } ∧ Fr H w w' := by
  have c0 : w.cell? ⟨H + 4, 0, none⟩ = some (.int .i64 s.cur) := (blk_cell he.cells 0).trans rfl
  have f0 := blk_frozen he.cells 0
  have hl := run_swap (P := Try.prog) Try.func42 (by kernel_rfl) (by kernel_rfl) (by kernel_rfl) .i64 (by kernel_rfl) (y := r) c0 f0
  have hC := Aside0.mk he
  clear he
  go_enter Try.func30, Try.ntmps30
  go_wp2
  go_ret
  exact ⟨rfl, hC.out.cur' r, Fr.setCell0 _⟩
set_option maxRecDepth 100000 in
theorem publish_c (he : Ep w H s) (r : Int) (h0 : 0 ≤ s.ep) (h9 : s.ep ≤ 4611686018427387904) : Calls Try.prog 11 #[.pointer (some ⟨H + 4, 0, none⟩), .int .i64 r] w fun e w' => e = .returned (.int .i64 (pubErr r)) ∧ Ep w' H (s.publish r) ∧ Fr H w w' := by
  have hw := wrap_add1 (n := s.ep) (by omega) h9
  clear h0 h9
  have c1 : w.cell? ⟨H + 4, 1, none⟩ = some (.int .i64 s.ep) := (blk_cell he.cells 1).trans rfl
  have f1 := blk_frozen he.cells 1
  have hC := Aside0.mk he
  have hD := Aside0.mk (he.ep' (s.ep + 1))
  clear he
  unfold St.publish pubErr
  by_cases h1 : r < 1
  · rw [if_pos h1, if_pos h1]
    go_enter Try.func11, Try.ntmps11
    go_wp2
    go_ret
    exact ⟨rfl, hC.out, Fr.refl _ _⟩
  · rw [if_neg h1, if_neg h1]
    by_cases h2 : r = s.cur
    · rw [if_pos h2]
      go_enter Try.func11, Try.ntmps11
      go_wp2_with (first
        | (go_at_call 24; refine (current_c hC.out).mono ?_; rintro e w' ⟨rfl, rfl⟩))
      go_ret
      exact ⟨rfl, hC.out, Fr.refl _ _⟩
    · rw [if_neg h2]
      go_enter Try.func11, Try.ntmps11
      go_wp2_with (first
        | (go_at_call 24; refine (current_c hC.out).mono ?_; rintro e w' ⟨rfl, rfl⟩)
        | (go_at_call 30; refine (swap_c hD.out r).mono ?_; rintro e w2 ⟨rfl, hE, hF⟩; have hE := Aside0.mk hE; have hF := Aside0.mk ((Fr.setCell0 _).trans hF))
        | (go_at_call 29; refine (retire_c hE.out s.cur).mono ?_; rintro e w3 ⟨rfl, hG, hI⟩; have d3 : w3.cell? ⟨H + 4, 3, none⟩ = some (.map (some (H + 1))) := (blk_cell hG.cells 3).trans rfl; have d5 : w3.cell? ⟨H + 4, 5, none⟩ = some (.map (some (H + 3))) := (blk_cell hG.cells 5).trans rfl; have hG := Aside0.mk hG; have hF2 := Aside0.mk (hF.out.trans hI); clear hF hI)
        | (at_delete; refine wpList_del rfl _ _ 50 3 rfl Try.underlying50 Try.underlying3 intKey intInj rfl hG.out.ret r rfl ?_; intro w4 h4 hg4 hs4; have hJ := Aside0.mk (hG.out.ret' hg4 h4); have hF4 := Aside0.mk (hF2.out.grown hg4 (by omega) (by omega)); have e5 : w4.cell? ⟨H + 4, 5, none⟩ = some (.map (some (H + 3))) := (blk_cell hJ.out.cells 5).trans rfl; clear h4 hg4 hs4 hF2)
        | (at_mapUpdate; refine wpList_upd rfl _ _ _ 51 rfl Try.underlying51 Try.underlying3 intKey intInj rfl hJ.out.ever r true rfl rfl ?_; intro w5 h5 hg5 hs5; have hK := Aside0.mk (hJ.out.ever' hg5 h5); have hF5 := Aside0.mk (hF4.out.grown hg5 (by omega) (by omega)); clear h5 hg5 hs5 hF4))
      go_ret
      exact ⟨rfl, hK.out, hF5.out⟩
set_option maxRecDepth 100000 in
theorem pin_c (he : Ep w H s) (h0 : 0 ≤ nget s.pins s.cur) (h9 : nget s.pins s.cur ≤ 4611686018427387904) : Calls Try.prog 17 #[.pointer (some ⟨H + 4, 0, none⟩)] w fun e w' => e = .returned (.tuple #[.int .i64 s.cur, .int .i64 s.pinErr]) ∧ Ep w' H s.pin ∧ Fr H w w' := by
  have hw := wrap_add1 (n := nget s.pins s.cur) (by omega) h9
  clear h0 h9
  have c2 : w.cell? ⟨H + 4, 2, none⟩ = some (.map (some H)) := (blk_cell he.cells 2).trans rfl
  have l2 := look_i he.pins s.cur w rfl
  have hC := Aside0.mk he
  clear he
  unfold St.pin St.pinErr
  by_cases h1 : s.cur = 0
  · rw [if_pos h1, if_pos h1]
    go_enter Try.func17, Try.ntmps17
    go_wp2_with (first
      | (go_at_call 24; refine (current_c hC.out).mono ?_; rintro e w' ⟨rfl, rfl⟩))
    go_ret2
    exact ⟨by rw [h1]; rfl, hC.out, Fr.refl _ _⟩
  · rw [if_neg h1, if_neg h1]
    go_enter Try.func17, Try.ntmps17
    go_wp2_with (first
      | (go_at_call 24; refine (current_c hC.out).mono ?_; rintro e w' ⟨rfl, rfl⟩)
      | (at_mapUpdate; refine wpList_upd rfl _ _ _ 50 rfl Try.underlying50 Try.underlying3 intKey intInj rfl hC.out.pins s.cur (wrap64 (nget s.pins s.cur + 1)) rfl rfl ?_; intro w5 h5 hg5 hs5; rw [hw] at h5; have hK := Aside0.mk (hC.out.pins' hg5 h5); have hF5 := Aside0.mk ((Fr.refl H _).grown hg5 (by omega) (by omega)); clear h5 hg5 hs5))
    go_ret2
    exact ⟨rfl, hK.out, hF5.out⟩
set_option maxRecDepth 100000 in
theorem unpin_c (he : Ep w H s) (r : Int) (h0 : 0 ≤ s.ep) (h9 : s.ep ≤ 4611686018427387904) (p0 : 0 ≤ nget s.pins r) (p9 : nget s.pins r ≤ 4611686018427387904) : Calls Try.prog 19 #[.pointer (some ⟨H + 4, 0, none⟩), .int .i64 r] w fun e w' => e = .returned (.int .i64 (s.unpinErr r)) ∧ Ep w' H (s.unpin r) ∧ Fr H w w' := by
  have hw := wrap_add1 (n := s.ep) (by omega) h9
  have hw2 := wrap_sub1 (n := nget s.pins r) (by omega) p9
  clear h0 h9 p0 p9
  have c2 : w.cell? ⟨H + 4, 2, none⟩ = some (.map (some H)) := (blk_cell he.cells 2).trans rfl
  have l2 := look_i he.pins r w rfl
  have hC := Aside0.mk he
  clear he
  unfold St.unpin St.unpinErr
  by_cases h1 : nget s.pins r = 0
  · rw [if_pos h1, if_pos h1]
    go_enter Try.func19, Try.ntmps19
    go_wp2
    go_ret
    exact ⟨rfl, hC.out, Fr.refl _ _⟩
  · rw [if_neg h1, if_neg h1]
    have hn : nget (lput s.pins r (nget s.pins r - 1)) r = nget s.pins r - 1 := by
      show (lget _ _).getD 0 = _
      rw [lget_put, if_pos rfl]
      rfl
    obtain ⟨n, en⟩ : ∃ n, Aside0 (n = nget s.pins r) := ⟨_, ⟨rfl⟩⟩
    rw [← en.out] at l2 hw2 h1 hn ⊢
    by_cases h2 : 0 < n - 1
    · rw [if_pos h2]
      go_enter Try.func19, Try.ntmps19
      go_wp2_with (first
        | (at_mapUpdate; refine wpList_upd rfl _ _ _ 50 rfl Try.underlying50 Try.underlying3 intKey intInj rfl hC.out.pins r (wrap64 (n - 1)) rfl rfl ?_; intro w5 h5 hg5 hs5; rw [hw2] at h5; have hK := Aside0.mk (hC.out.pins' hg5 h5); have hF5 := Aside0.mk ((Fr.refl H _).grown hg5 (by omega) (by omega)); have d2 : w5.cell? ⟨H + 4, 2, none⟩ = some (.map (some H)) := (blk_cell hK.out.cells 2).trans rfl; have m2 := look_i hK.out.pins r w5 rfl; rw [hn] at m2; clear h5 hg5 hs5))
      go_ret
      exact ⟨rfl, hK.out, hF5.out⟩
    · rw [if_neg h2]
      by_cases h3 : r = s.cur
      · rw [if_pos h3]
        have h4 : (r != s.cur) = false := by rw [h3]; simp
        clear h3
        go_enter Try.func19, Try.ntmps19
        go_wp2_with (first
          | (go_at_call 24; refine (current_c hJ.out).mono ?_; rintro e w' ⟨rfl, rfl⟩)
          | (at_delete; refine wpList_del rfl _ _ 50 3 rfl Try.underlying50 Try.underlying3 intKey intInj rfl hK.out.pins r rfl ?_; intro w4 h4 hg4 hs4; have hJ := Aside0.mk (hK.out.pins' hg4 h4); have hF4 := Aside0.mk (hF5.out.grown hg4 (by omega) (by omega)); clear h4 hg4 hs4 hF5)
          | (at_mapUpdate; refine wpList_upd rfl _ _ _ 50 rfl Try.underlying50 Try.underlying3 intKey intInj rfl hC.out.pins r (wrap64 (n - 1)) rfl rfl ?_; intro w5 h5 hg5 hs5; rw [hw2] at h5; have hK := Aside0.mk (hC.out.pins' hg5 h5); have hF5 := Aside0.mk ((Fr.refl H _).grown hg5 (by omega) (by omega)); have d2 : w5.cell? ⟨H + 4, 2, none⟩ = some (.map (some H)) := (blk_cell hK.out.cells 2).trans rfl; have m2 := look_i hK.out.pins r w5 rfl; rw [hn] at m2; clear h5 hg5 hs5))
        go_ret
        exact ⟨rfl, hJ.out, hF4.out⟩
      · rw [if_neg h3]
        go_enter Try.func19, Try.ntmps19
        go_wp2_with (first
          | (go_at_call 24; refine (current_c hJ.out).mono ?_; rintro e w' ⟨rfl, rfl⟩)
          | (go_at_call 29; refine (retire_c hL.out r).mono ?_; rintro e w3 ⟨rfl, hG, hI⟩; have hG := Aside0.mk hG; have hF2 := Aside0.mk ((hF4.out.trans (Fr.setCell0 _)).trans hI); clear hI)
          | (at_delete; refine wpList_del rfl _ _ 50 3 rfl Try.underlying50 Try.underlying3 intKey intInj rfl hK.out.pins r rfl ?_; intro w4 h4 hg4 hs4; have hJ := Aside0.mk (hK.out.pins' hg4 h4); have hF4 := Aside0.mk (hF5.out.grown hg4 (by omega) (by omega)); have hL := Aside0.mk (hJ.out.ep' (s.ep + 1)); have c1 : w4.cell? ⟨H + 4, 1, none⟩ = some (.int .i64 s.ep) := (blk_cell hJ.out.cells 1).trans rfl; have f1 := blk_frozen hJ.out.cells 1; clear h4 hg4 hs4 hF5)
          | (at_mapUpdate; refine wpList_upd rfl _ _ _ 50 rfl Try.underlying50 Try.underlying3 intKey intInj rfl hC.out.pins r (wrap64 (n - 1)) rfl rfl ?_; intro w5 h5 hg5 hs5; rw [hw2] at h5; have hK := Aside0.mk (hC.out.pins' hg5 h5); have hF5 := Aside0.mk ((Fr.refl H _).grown hg5 (by omega) (by omega)); have d2 : w5.cell? ⟨H + 4, 2, none⟩ = some (.map (some H)) := (blk_cell hK.out.cells 2).trans rfl; have m2 := look_i hK.out.pins r w5 rfl; rw [hn] at m2; clear h5 hg5 hs5))
        go_ret
        exact ⟨rfl, hG.out, hF2.out⟩
end
end Go.Proofs.Ytfiehglbpcjkfaa.Hand
