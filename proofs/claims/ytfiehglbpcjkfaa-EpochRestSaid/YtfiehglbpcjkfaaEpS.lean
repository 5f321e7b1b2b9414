/- What must be in any case: shown() is true. -/
import Derived.Test.YtfiehglbpcjkfaaEpV
namespace Go.Proofs.Ytfiehglbpcjkfaa.Hand
open Go.Proofs Go Go.MapKept Go.RowKit Go.Proofs.YtfiehglbpcjkfaaW.PrintWords Go.Proofs.YtfiehglbpcjkfaaW.PrintLast Go.Proofs.YtfiehglbpcjkfaaW.PrintMore
set_option linter.unusedSectionVars false
set_option linter.unusedVariables false
set_option linter.unusedSimpArgs false
def z1 : St := ⟨1, 1, [], [], [], [(1, true)]⟩
def z2 : St := ⟨1, 1, [], [], [(7, 1)], [(1, true)]⟩
def z3 : St := ⟨2, 2, [], [(1, 2)], [(7, 1)], [(1, true), (2, true)]⟩
def z4 : St := ⟨2, 2, [], [(1, 2)], [], [(1, true), (2, true)]⟩
def z5 : St := ⟨2, 2, [], [], [], [(1, true), (2, true)]⟩
theorem z3_freed : z3.freed = [] := by
  show List.mergeSort [] _ = []
  simp
theorem z4_freed : z4.freed = [1] := by
  show List.mergeSort [1] _ = [1]
  simp
theorem z5_lives : z5.lives = [2] := by
  have h1 : ([1, 2] : List Int).mergeSort (fun x y => decide (x ≤ y)) = [1, 2] := List.mergeSort_of_pairwise (by decide)
  show (List.mergeSort [1, 2] _).filter z5.live = [2]
  rw [h1]
  rfl
theorem C_one {w : World} {A : Option Addr} {x : Int} (h : Kd.C (Kd.int .i64) w A 1 [x]) : ∃ ad, A = some ad ∧ w.cell? ad = some (.int .i64 x) ∧ ad.block < w.heap.size := by
  obtain ⟨ad, c, e, hs, hr, hc⟩ := ReadsRow.get_ h 0 0 (by omega) (by omega)
  have hr : c = [.int .i64 x] := hr
  subst hr
  have h1 := hc 0 _ rfl
  have e2 : ad.add ((0 : Int).toNat * (Kd.int .i64).sz + 0) = ad := by
    cases ad
    simp [Addr.add]
  rw [e2] at h1
  refine ⟨ad, e, h1, ?_⟩
  unfold World.cell? at h1
  split at h1
  · rename_i hb
    exact (Array.getElem?_eq_some_iff.1 hb).1
  · cases h1
set_option maxRecDepth 100000 in
theorem shown_c (w : World) : Calls Try.prog 9 #[] w fun e w' => e = .returned (.bool true) ∧ Below w.heap.size w w' := by
  have t1 : True := trivial
  have t2 : True := trivial
  have t3 : True := trivial
  have t4 : True := trivial
  have t5 : True := trivial
  have t6 : True := trivial
  have t7 : True := trivial
  go_enter Try.func9, Try.ntmps9
  go_wp2_with (first
    | (have tok := t1; go_at_call 10; refine (new_c _).mono ?_; rintro e w1 ⟨rfl, h1, h2, h3⟩; clear tok t1; obtain ⟨H, eH⟩ : ∃ H, H = w.heap.size := ⟨_, rfl⟩; rw [← eH] at h1 ⊢; have HE := Aside0.mk h1; have HH := Aside0.mk (Nat.le_of_eq eH.symm); have HB := Aside0.mk h2; clear h1 h2 h3 eH)
    | (have tok := t2; go_at_call 11; refine (publish_v HE.out 1 (by decide) (by decide) (s' := z1) rfl (v := 0) rfl).mono ?_; rintro e w2 ⟨rfl, h1, h2⟩; clear tok t2 HE; have HE := Aside0.mk h1; have HB := Aside0.mk (below_fr HB.out h2 HH.out); clear h1 h2)
    | (go_at_call 13; refine (enter_v HE.out 7 (s' := z2) (c := 1) rfl rfl).mono ?_; rintro e w3 ⟨rfl, h1, h2⟩; clear HE; have HE := Aside0.mk h1; have HB := Aside0.mk (below_fr HB.out h2 HH.out); clear h1 h2)
    | (have tok := t3; go_at_call 11; refine (publish_v HE.out 2 (by decide) (by decide) (s' := z3) rfl (v := 0) rfl).mono ?_; rintro e w4 ⟨rfl, h1, h2⟩; clear tok t3 HE; have HE := Aside0.mk h1; have HB := Aside0.mk (below_fr HB.out h2 HH.out); clear h1 h2)
    | (have tok := t4; go_at_call 21; refine (reclaim_v HE.out (by decide) z3_freed (n := 0) rfl (s' := z3) rfl).mono ?_; rintro e w5 ⟨A1, c1, rfl, h3, h4, h1, h2⟩; clear tok t4 HE h3 h4; have HE := Aside0.mk h1; have HB := Aside0.mk (below_fr HB.out h2 HH.out); clear h1 h2)
    | (have tok := t5; go_at_call 27; refine (gone_v HE.out 1 (b := false) rfl).mono ?_; rintro e w6 ⟨rfl, rfl⟩; clear tok t5)
    | (go_at_call 15; refine (leave_v HE.out 7 (s' := z4) rfl).mono ?_; rintro e w7 ⟨rfl, h1, h2⟩; clear HE; have HE := Aside0.mk h1; have HB := Aside0.mk (below_fr HB.out h2 HH.out); clear h1 h2)
    | (have tok := t6; go_at_call 21; refine (reclaim_v HE.out (by decide) z4_freed (n := 1) rfl (s' := z5) rfl).mono ?_; rintro e w8 ⟨A2, c2, rfl, h3, h4, h1, h2⟩; clear tok t6 HE; have HE := Aside0.mk h1; have HB := Aside0.mk (below_fr HB.out h2 HH.out); have HC := Aside0.mk h4; clear h1 h2 h3 h4)
    | (go_at_call 10; refine (new_c _).mono ?_; rintro e w9 ⟨rfl, h1, h2, h3⟩; obtain ⟨ad, rfl, hc0, hlt0⟩ := C_one HC.out; obtain ⟨H2, eH2⟩ : ∃ H2, H2 = w8.heap.size := ⟨_, rfl⟩; rw [← eH2] at h1 hlt0 ⊢; have LH := Aside0.mk (show H + 5 ≤ H2 by have := HE.out.lt; omega); have HE1 := Aside0.mk h1; have hE := Aside0.mk (HE.out.below h2); have HC1 := Aside0.mk ((h2.cell (by rw [← eH2]; exact hlt0)).trans hc0); have LA := Aside0.mk hlt0; have HBn := Aside0.mk (below_step HB.out h2); clear HE HB HC h1 h2 h3 hc0 hlt0 eH2; have HE := hE; have HB := HBn; clear hE HBn)
    | (go_at_call 17; refine (pin_v HE1.out (by decide) (by decide) (c := 0) (v := 7) (s' := St.new) rfl rfl rfl).mono ?_; rintro e w10 ⟨rfl, h1, h2⟩; have hE := Aside0.mk (HE.out.other h2 LH.out); have hcA : w10.cell? ad = some (.int .i64 1) := (World.cell?_of_block (h2.block _ (by have := h2.size; have := HE1.out.lt; have := LA.out; omega) (.inl LA.out))).trans HC1.out; have HBn := Aside0.mk (below_fr HB.out h2 (Nat.le_trans HH.out (by have := LH.out; omega))); clear HE HB HE1 HC1 h1 h2; have HE := hE; have HB := HBn; clear hE HBn)
    | (have tok := t7; go_at_call 27; refine (gone_v HE.out 1 (b := true) rfl).mono ?_; rintro e w6 ⟨rfl, rfl⟩; clear tok t7)
    | (go_at_call 24; refine (current_v HE.out (c := 2) rfl).mono ?_; rintro e w6 ⟨rfl, rfl⟩)
    | (go_at_call 19; refine (unpin_v HE.out 2 (by decide) (by decide) (by decide) (by decide) (v := 9) (s' := z5) rfl rfl).mono ?_; rintro e w11 ⟨rfl, h1, h2⟩; clear HE; have HE := Aside0.mk h1; have HB := Aside0.mk (below_fr HB.out h2 HH.out); clear h1 h2)
    | (go_at_call 11; refine (publish_v HE.out 0 (by decide) (by decide) (s' := z5) rfl (v := 1) rfl).mono ?_; rintro e w12 ⟨rfl, h1, h2⟩; clear HE; have HE := Aside0.mk h1; have HB := Aside0.mk (below_fr HB.out h2 HH.out); clear h1 h2)
    | (go_at_call 25; refine (lives_v HE.out (by decide) (by decide) z5_lives).mono ?_; rintro e w13 ⟨A, c, rfl, h3, h4, h2⟩; have HBn := Aside0.mk (below_step HB.out h2); clear HB h2 h3 h4; have HB := HBn; clear HBn))
  go_ret
  exact ⟨rfl, HB.out⟩
end Go.Proofs.Ytfiehglbpcjkfaa.Hand
