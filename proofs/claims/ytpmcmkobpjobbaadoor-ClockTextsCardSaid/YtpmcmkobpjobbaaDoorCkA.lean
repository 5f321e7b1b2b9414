/- The walks of clock.Right, Seconds, list, slices.Compare, Compare. -/
import Derived.Test.YtpmcmkobpjobbaaDoorCkBase
import Derived.Deep.QuietTactic
import Derived.Deep.RegionHeld3
import Derived.BigQuiet
namespace Go.Proofs.YtpmcmkobpjobbaaDoor.Hand
open Go.RowKit Go.Proofs.YtpmcmkobpjobbaaDoorW.PrintWords Go.Proofs.YtpmcmkobpjobbaaDoorW.PrintLast Go.Proofs.YtpmcmkobpjobbaaDoorW.PrintMore Go.Proofs.YtpmcmkobpjobbaaDoor.PPA Cv
set_option linter.unusedVariables false
set_option linter.unusedSimpArgs false
theorem clock_below.calls (n most : Int) (w : World) :
    Calls Tryd.prog 26 #[.int .i64 n, .int .i64 most] w fun e w' => e = .returned (.bool (decide (0 ≤ n) && decide (n < most))) ∧ w' = w := by
  by_cases h : 0 ≤ n
  · have h1 : decide (0 ≤ n) = true := decide_eq_true h
    clear h
    go_enter Tryd.func26, Tryd.ntmps26
    go_wp2
    go_ret
    exact ⟨by rw [h1]; rfl, rfl⟩
  · have h1 : decide (0 ≤ n) = false := decide_eq_false h
    clear h
    go_enter Tryd.func26, Tryd.ntmps26
    go_wp2
    go_ret
    exact ⟨by rw [h1]; rfl, rfl⟩
theorem and4 (a b c d : Bool) : (a && b && c && d) = if a = true then if b = true then if c = true then d else false else false else false := by cases a <;> cases b <;> cases c <;> cases d <;> rfl
set_option maxHeartbeats 2000000 in
set_option maxRecDepth 100000 in
theorem clock_Right.calls (y m d H M S : Int) (w : World) (hG : Glob w) :
    Calls Tryd.prog 14 #[.agg #[.int .i64 y, .int .i64 m, .int .i64 d, .int .i64 H, .int .i64 M, .int .i64 S]] w fun e w' => e = .returned (.bool (cright y m d H M S)) ∧ Below w.heap.size w w' := by
  have hu23 := Tryd.underlying23
  have HB := Aside0.mk (Below.refl w.heap.size w)
  have E : cright y m d H M S = (rightB y m d && (decide (0 ≤ H) && decide (H < 24)) && (decide (0 ≤ M) && decide (M < 60)) && (decide (0 ≤ S) && decide (S < 60))) := by simp [cright, Bool.and_assoc]
  have hR := Aside0.mk (right_f y m d)
  have HE := Aside0.mk (E.trans (and4 _ _ _ _))
  clear E
  obtain ⟨r, hr⟩ : ∃ r, r = rightB y m d := ⟨_, rfl⟩
  obtain ⟨a, ha⟩ : ∃ r, r = (decide (0 ≤ H) && decide (H < 24)) := ⟨_, rfl⟩
  obtain ⟨b, hb⟩ : ∃ r, r = (decide (0 ≤ M) && decide (M < 60)) := ⟨_, rfl⟩
  obtain ⟨c, hc⟩ : ∃ r, r = (decide (0 ≤ S) && decide (S < 60)) := ⟨_, rfl⟩
  rw [← hr, ← ha, ← hb, ← hc] at HE
  rw [← hr] at hR
  have CA := Aside0.mk (clock_below.calls H 24)
  have CB := Aside0.mk (clock_below.calls M 60)
  have CC := Aside0.mk (clock_below.calls S 60)
  rw [← ha] at CA
  rw [← hb] at CB
  rw [← hc] at CC
  clear hr ha hb hc
  cases r <;> cases a <;> cases b <;> cases c
  all_goals
    go_enter Tryd.func14, Tryd.ntmps14
    go_wp2_with (first
      | ((with_reducible refine gate_dst (N := 1) rfl ?_); refine box_event ?hg (N := 1) ?hd (cs := #[.int .i64 y, .int .i64 m, .int .i64 d, .int .i64 H, .int .i64 M, .int .i64 S]) (t := 23) ?hr ?_; (case hd => rfl); (case hg => rfl); (case hr => first | (go_simp; done) | (go_simp; rfl)); intro gh hg w1 hbox hb; have Bgh := Aside0.mk hbox; have GEgh := Aside0.mk (show w.heap.size ≤ gh by first | omega | (have h_ := below_size HB.out; omega)); clear hbox hg; have n0_ := Aside0.mk (below_step HB.out hb); clear HB; have HB := n0_; clear n0_ hb; have a0 : w1.cell? ⟨gh, 0, none⟩ = some (.int .i64 y) := (blk_cell Bgh.out 0).trans rfl; have a1 : w1.cell? ⟨gh, 1, none⟩ = some (.int .i64 m) := (blk_cell Bgh.out 1).trans rfl; have a2 : w1.cell? ⟨gh, 2, none⟩ = some (.int .i64 d) := (blk_cell Bgh.out 2).trans rfl; have a3 : w1.cell? ⟨gh, 3, none⟩ = some (.int .i64 H) := (blk_cell Bgh.out 3).trans rfl; have a4 : w1.cell? ⟨gh, 4, none⟩ = some (.int .i64 M) := (blk_cell Bgh.out 4).trans rfl; have a5 : w1.cell? ⟨gh, 5, none⟩ = some (.int .i64 S) := (blk_cell Bgh.out 5).trans rfl)
      | (go_at_call 27; (with_reducible refine (civil_Right.calls y m d _ _ hR.out (hG.below HB.out)).mono ?_); rintro e w2 ⟨rfl, hd⟩; have hb := hd.below; clear hd; have n0_ := Aside0.mk (blk_below Bgh.out hb); have n1_ := Aside0.mk (below_step HB.out hb); clear Bgh HB; have Bgh := n0_; have HB := n1_; clear n0_ n1_ hb; have b0 : w2.cell? ⟨gh, 0, none⟩ = some (.int .i64 y) := (blk_cell Bgh.out 0).trans rfl; have b1 : w2.cell? ⟨gh, 1, none⟩ = some (.int .i64 m) := (blk_cell Bgh.out 1).trans rfl; have b2 : w2.cell? ⟨gh, 2, none⟩ = some (.int .i64 d) := (blk_cell Bgh.out 2).trans rfl; have b3 : w2.cell? ⟨gh, 3, none⟩ = some (.int .i64 H) := (blk_cell Bgh.out 3).trans rfl; have b4 : w2.cell? ⟨gh, 4, none⟩ = some (.int .i64 M) := (blk_cell Bgh.out 4).trans rfl; have b5 : w2.cell? ⟨gh, 5, none⟩ = some (.int .i64 S) := (blk_cell Bgh.out 5).trans rfl)
      | (go_at_call 26; (first | (with_reducible refine (CA.out _).mono ?_) | (with_reducible refine (CB.out _).mono ?_) | (with_reducible refine (CC.out _).mono ?_)); rintro e w3 ⟨rfl, rfl⟩))
    go_ret
    exact ⟨by rw [HE.out]; rfl, HB.out⟩
end Go.Proofs.YtpmcmkobpjobbaaDoor.Hand
