-- Written by a program of the session's out of the translation. Not trusted: Lean checks it.
import Derived.Test.YtgaibighfmcgoaaPHdrAx0
import Derived.Test.YtgaibighfmcgoaaPHdrAx1
import Derived.Test.YtgaibighfmcgoaaPHdrAx2
namespace Go.Proofs.Ytgaibighfmcgoaa.PHdrA
open Go.RowKit Go.Proofs.Ytgaibighfmcgoaa.Hand Go.Proofs.YtgaibighfmcgoaaW.PrintWords Go.Proofs.YtgaibighfmcgoaaW.PrintLast Go.Proofs.YtgaibighfmcgoaaW.PrintMore
attribute [local go_sem] max2_int min2_int max_two min_two max_three min_three max_four min_four   -- for this text's walks alone
set_option linter.unusedVariables false
set_option linter.unusedSimpArgs false

/-! ### longcaseref05_Decode: function 18 -/
mutual
def longcaseref05_Decode.j0 : Nat → List Int → Int → Int → Int → Int → Int → Int → Int → Option (Int × Int × Int × Int × Int × Int × Int × Int)
  | 0, _, _, _, _, _, _, _, _ => none
  | k + 1, x0, x151000, x151001, x151002, x151003, x151004, x151005, x151006 => longcaseref05_Decode.l0 k x0 (([] : List Int)) 0 x151000 x151001 x151002 x151003 x151004 x151005 x151006
def longcaseref05_Decode.l0 : Nat → List Int → List Int → Int → Int → Int → Int → Int → Int → Int → Int → Option (Int × Int × Int × Int × Int × Int × Int × Int)
  | 0, _, _, _, _, _, _, _, _, _, _ => none
  | k + 1, x0, x5, x6, x151000, x151001, x151002, x151003, x151004, x151005, x151006 => if x6 < 6 then ((longcaseref04_Uint.f k x0 (wrap64 (20 + (wrap64 (4 * x6)))) 4).bind fun bt158 => (if x5.length < 17592186044416 then (longcaseref05_Decode.l0 k x0 (x5 ++ [wrap64 (bt158.1)]) (wrap64 (x6 + 1)) x151000 x151001 x151002 x151003 x151004 x151005 x151006) else (none))) else (if 0 < (x5.length : Int) then (if 1 < (x5.length : Int) then (if 2 < (x5.length : Int) then (if 3 < (x5.length : Int) then (if 4 < (x5.length : Int) then (if 5 < (x5.length : Int) then ((longcaseref05_Right.f k x151000 (rd x5 0) (rd x5 1) (rd x5 2) (rd x5 3) (rd x5 4) (rd x5 5)).bind fun t169 => (if t169 = true then (some (x151000, rd x5 0, rd x5 1, rd x5 2, rd x5 3, rd x5 4, rd x5 5, 0)) else (some (0, 0, 0, 0, 0, 0, 0, 4)))) else (none)) else (none)) else (none)) else (none)) else (none)) else (none))
end
def longcaseref05_Decode.f (k : Nat) (l0 : List Int) : Option (Int × Int × Int × Int × Int × Int × Int × Int) := if (l0.length : Int) < 44 then (some (0, 0, 0, 0, 0, 0, 0, 5)) else (if 4 ≤ (l0.length : Int) then (if (strOfNums (l0.take 4)).toList = ([84, 90, 105, 102] : List UInt8) then (if 4 < (l0.length : Int) then (if (rd l0 4) = 0 then (longcaseref05_Decode.j0 k l0 1 0 0 0 0 0 0) else (if (rd l0 4) < 50 then (some (0, 0, 0, 0, 0, 0, 0, 4)) else (if (rd l0 4) > 52 then (some (0, 0, 0, 0, 0, 0, 0, 4)) else (longcaseref05_Decode.j0 k l0 (((rd l0 4) - 48) % 256) 0 0 0 0 0 0)))) else (none)) else (some (0, 0, 0, 0, 0, 0, 0, 4))) else (none))
theorem longcaseref05_Decode.mono_l : ∀ k, (∀ y0 y1 y2 y3 y4 y5 y6 y7, LeO (longcaseref05_Decode.j0 k y0 y1 y2 y3 y4 y5 y6 y7) (longcaseref05_Decode.j0 (k + 1) y0 y1 y2 y3 y4 y5 y6 y7)) ∧ (∀ y0 y1 y2 y3 y4 y5 y6 y7 y8 y9, LeO (longcaseref05_Decode.l0 k y0 y1 y2 y3 y4 y5 y6 y7 y8 y9) (longcaseref05_Decode.l0 (k + 1) y0 y1 y2 y3 y4 y5 y6 y7 y8 y9))
  | 0 => ⟨fun _ _ _ _ _ _ _ _ r h => by simp [longcaseref05_Decode.j0] at h, fun _ _ _ _ _ _ _ _ _ _ r h => by simp [longcaseref05_Decode.l0] at h⟩
  | k + 1 => by
    obtain ⟨ih0, ih1⟩ := longcaseref05_Decode.mono_l k
    refine ⟨?_, ?_⟩
    · intro y0 y1 y2 y3 y4 y5 y6 y7
      unfold longcaseref05_Decode.j0
      repeat' first
      | (with_reducible exact ih0 _ _ _ _ _ _ _ _)
      | (with_reducible exact ih1 _ _ _ _ _ _ _ _ _ _)
      | (with_reducible exact longcaseref04_Uint.mono _ _ _ _)
      | (with_reducible exact longcaseref05_Right.mono _ _ _ _ _ _ _ _)
      | (with_reducible exact LeO.refl _)
      | (with_reducible exact LeO.none _)
      | (with_reducible refine LeO.ite ?_ ?_)
      | (with_reducible refine LeO.bind ?_ (fun _ => ?_))
      | exact ih0 _ _ _ _ _ _ _ _
      | exact ih1 _ _ _ _ _ _ _ _ _ _
      | exact longcaseref04_Uint.mono _ _ _ _
      | exact longcaseref05_Right.mono _ _ _ _ _ _ _ _
      | exact LeO.none _
      | refine LeO.ite ?_ ?_
      | refine LeO.bind ?_ (fun _ => ?_)
    · intro y0 y1 y2 y3 y4 y5 y6 y7 y8 y9
      unfold longcaseref05_Decode.l0
      repeat' first
      | (with_reducible exact ih0 _ _ _ _ _ _ _ _)
      | (with_reducible exact ih1 _ _ _ _ _ _ _ _ _ _)
      | (with_reducible exact longcaseref04_Uint.mono _ _ _ _)
      | (with_reducible exact longcaseref05_Right.mono _ _ _ _ _ _ _ _)
      | (with_reducible exact LeO.refl _)
      | (with_reducible exact LeO.none _)
      | (with_reducible refine LeO.ite ?_ ?_)
      | (with_reducible refine LeO.bind ?_ (fun _ => ?_))
      | exact ih0 _ _ _ _ _ _ _ _
      | exact ih1 _ _ _ _ _ _ _ _ _ _
      | exact longcaseref04_Uint.mono _ _ _ _
      | exact longcaseref05_Right.mono _ _ _ _ _ _ _ _
      | exact LeO.none _
      | refine LeO.ite ?_ ?_
      | refine LeO.bind ?_ (fun _ => ?_)
theorem longcaseref05_Decode.mono : ∀ a0 k, LeO (longcaseref05_Decode.f k a0) (longcaseref05_Decode.f (k + 1) a0) := by
  intro a0 k
  obtain ⟨ih0, ih1⟩ := longcaseref05_Decode.mono_l k
  unfold longcaseref05_Decode.f
  repeat' first
      | (with_reducible exact ih0 _ _ _ _ _ _ _ _)
      | (with_reducible exact ih1 _ _ _ _ _ _ _ _ _ _)
      | (with_reducible exact longcaseref04_Uint.mono _ _ _ _)
      | (with_reducible exact longcaseref05_Right.mono _ _ _ _ _ _ _ _)
      | (with_reducible exact LeO.refl _)
      | (with_reducible exact LeO.none _)
      | (with_reducible refine LeO.ite ?_ ?_)
      | (with_reducible refine LeO.bind ?_ (fun _ => ?_))
      | exact ih0 _ _ _ _ _ _ _ _
      | exact ih1 _ _ _ _ _ _ _ _ _ _
      | exact longcaseref04_Uint.mono _ _ _ _
      | exact longcaseref05_Right.mono _ _ _ _ _ _ _ _
      | exact LeO.none _
      | refine LeO.ite ?_ ?_
      | refine LeO.bind ?_ (fun _ => ?_)
set_option maxHeartbeats 8000000 in
set_option maxRecDepth 100000 in
theorem longcaseref05_Decode.calls (k : Nat) (A0 : Option Addr) (c0 : Nat) (l0 : List Int) (r1 : Int) (r2 : Int) (r3 : Int) (r4 : Int) (r5 : Int) (r6 : Int) (r7 : Int) (r8 : Int) (w : World) (hr0 : Kd.C (Kd.int .u8) w A0 l0.length l0) (hc0 : l0.length ≤ c0) (h : longcaseref05_Decode.f k l0 = some (r1, r2, r3, r4, r5, r6, r7, r8)) :
    Calls Try.prog 18 #[.slice A0 l0.length c0] w fun e w' => e = .returned (.tuple #[.agg #[.int .i64 r1, .int .i64 r2, .int .i64 r3, .int .i64 r4, .int .i64 r5, .int .i64 r6, .int .i64 r7], .int .i64 r8]) ∧ Below w.heap.size w w' := by
  have hu26 := Try.underlying26
  have HR0 := Aside0.mk hr0
  have HC0 := Aside0.mk hc0
  clear hr0 hc0
  have HB := Aside0.mk (Below.refl w.heap.size w)
  have H : (if (l0.length : Int) < 44 then (some (0, 0, 0, 0, 0, 0, 0, 5)) else (if 4 ≤ (l0.length : Int) then (if (strOfNums (l0.take 4)).toList = ([84, 90, 105, 102] : List UInt8) then (if 4 < (l0.length : Int) then (if (rd l0 4) = 0 then (longcaseref05_Decode.j0 k l0 1 0 0 0 0 0 0) else (if (rd l0 4) < 50 then (some (0, 0, 0, 0, 0, 0, 0, 4)) else (if (rd l0 4) > 52 then (some (0, 0, 0, 0, 0, 0, 0, 4)) else (longcaseref05_Decode.j0 k l0 (((rd l0 4) - 48) % 256) 0 0 0 0 0 0)))) else (none)) else (some (0, 0, 0, 0, 0, 0, 0, 4))) else (none))) = some (r1, r2, r3, r4, r5, r6, r7, r8) := h
  clear h
  by_cases c2 : (l0.length : Int) < 44
  · rw [if_pos c2] at H
    have c2b0 : decide ((l0.length : Int) < 44) = true := decide_eq_true c2
    have c2b1 : decide (l0.length < 44) = true := decide_eq_true (by omega)
    clear c2
    simp only [Option.some.injEq, Prod.mk.injEq] at H
    obtain ⟨rfl, rfl, rfl, rfl, rfl, rfl, rfl, rfl⟩ := H
    go_enter Try.func18, Try.ntmps18
    go_wp2_with (first | ((with_reducible refine gate_dst (N := 2) rfl ?_); refine box_event ?hg (N := 2) ?hd (cs := #[.int .i64 0, .int .i64 0, .int .i64 0, .int .i64 0, .int .i64 0, .int .i64 0, .int .i64 0]) (t := 26) ?hr ?_; (case hd => rfl); (case hg => rfl); (case hr => first | (go_simp; done) | (go_simp; rfl)); intro gb148 hg w3 hbox hb; have n0_ := Aside0.mk (below_step (by repeat (first | (with_reducible first | exact HB.out | apply below_alloc | apply pw_below_drewN | apply below_drew1) | exact HB.out)) hb); have n1_ := Aside0.mk (hbox); have n2_ := Aside0.mk ((by rw [hg]; exact (below_size (by repeat (first | (with_reducible first | exact HB.out | apply below_alloc | apply pw_below_drewN | apply below_drew1) | exact HB.out))) : w.heap.size ≤ gb148)); have n3_ := Aside0.mk ((by rw [hg]; exact (below_size (by repeat (first | (with_reducible first | exact HB.out | apply below_alloc | apply pw_below_drewN | apply below_drew1) | exact HB.out))) : w.heap.size ≤ gb148)); clear HB; have HB := n0_; have BK148 := n1_; have GW148 := n2_; have GE148 := n3_; clear n0_ n1_ n2_ n3_; clear hb hbox hg; have hcz4_0 : w3.cell? ⟨gb148, 0, none⟩ = some (.int .i64 0) := (blk_cell BK148.out 0).trans rfl; have hcz4_1 : w3.cell? ⟨gb148, 1, none⟩ = some (.int .i64 0) := (blk_cell BK148.out 1).trans rfl; have hcz4_2 : w3.cell? ⟨gb148, 2, none⟩ = some (.int .i64 0) := (blk_cell BK148.out 2).trans rfl; have hcz4_3 : w3.cell? ⟨gb148, 3, none⟩ = some (.int .i64 0) := (blk_cell BK148.out 3).trans rfl; have hcz4_4 : w3.cell? ⟨gb148, 4, none⟩ = some (.int .i64 0) := (blk_cell BK148.out 4).trans rfl; have hcz4_5 : w3.cell? ⟨gb148, 5, none⟩ = some (.int .i64 0) := (blk_cell BK148.out 5).trans rfl; have hcz4_6 : w3.cell? ⟨gb148, 6, none⟩ = some (.int .i64 0) := (blk_cell BK148.out 6).trans rfl; have hfz4_0 := blk_frozen BK148.out 0; have hfz4_1 := blk_frozen BK148.out 1; have hfz4_2 := blk_frozen BK148.out 2; have hfz4_3 := blk_frozen BK148.out 3; have hfz4_4 := blk_frozen BK148.out 4; have hfz4_5 := blk_frozen BK148.out 5; have hfz4_6 := blk_frozen BK148.out 6))
    refine bodyPost_ret (results_ct rfl _ _ gb148 26 #[.int .i64 0, .int .i64 0, .int .i64 0, .int .i64 0, .int .i64 0, .int .i64 0, .int .i64 0] (0, 0) _ rfl (by (with_reducible repeat (first | refine blk_drewN ?_ _ | refine blk_drew ?_ | refine blk_alloc ?_ _)); refine blk_put (cs := #[.int .i64 0, .int .i64 0, .int .i64 0, .int .i64 0, .int .i64 0, .int .i64 0, .int .i64 0]) ?_ 6 _ rfl; (with_reducible repeat (first | refine blk_drewN ?_ _ | refine blk_drew ?_ | refine blk_alloc ?_ _)); refine blk_put (cs := #[.int .i64 0, .int .i64 0, .int .i64 0, .int .i64 0, .int .i64 0, .int .i64 0, .int .i64 0]) ?_ 5 _ rfl; (with_reducible repeat (first | refine blk_drewN ?_ _ | refine blk_drew ?_ | refine blk_alloc ?_ _)); refine blk_put (cs := #[.int .i64 0, .int .i64 0, .int .i64 0, .int .i64 0, .int .i64 0, .int .i64 0, .int .i64 0]) ?_ 4 _ rfl; (with_reducible repeat (first | refine blk_drewN ?_ _ | refine blk_drew ?_ | refine blk_alloc ?_ _)); refine blk_put (cs := #[.int .i64 0, .int .i64 0, .int .i64 0, .int .i64 0, .int .i64 0, .int .i64 0, .int .i64 0]) ?_ 3 _ rfl; (with_reducible repeat (first | refine blk_drewN ?_ _ | refine blk_drew ?_ | refine blk_alloc ?_ _)); refine blk_put (cs := #[.int .i64 0, .int .i64 0, .int .i64 0, .int .i64 0, .int .i64 0, .int .i64 0, .int .i64 0]) ?_ 2 _ rfl; (with_reducible repeat (first | refine blk_drewN ?_ _ | refine blk_drew ?_ | refine blk_alloc ?_ _)); refine blk_put (cs := #[.int .i64 0, .int .i64 0, .int .i64 0, .int .i64 0, .int .i64 0, .int .i64 0, .int .i64 0]) ?_ 1 _ rfl; (with_reducible repeat (first | refine blk_drewN ?_ _ | refine blk_drew ?_ | refine blk_alloc ?_ _)); refine blk_put (cs := #[.int .i64 0, .int .i64 0, .int .i64 0, .int .i64 0, .int .i64 0, .int .i64 0, .int .i64 0]) ?_ 0 _ rfl; (with_reducible repeat (first | refine blk_drewN ?_ _ | refine blk_drew ?_ | refine blk_alloc ?_ _)); exact BK148.out) Try.underlying26 rfl (by kernel_rfl)) rfl ?_
    exact ⟨by first | rfl | (simp [errW_none, errW_some] <;> rfl) | (simp [*, errW_none, errW_some] <;> rfl), by repeat (first | (with_reducible first | exact HB.out | apply below_alloc | apply pw_below_drewN | apply below_drew1 | refine below_set ?_ GE148.out) | exact HB.out)⟩
  · rw [if_neg c2] at H
    have c2b0 : decide ((l0.length : Int) < 44) = false := decide_eq_false c2
    have c2b1 : decide (l0.length < 44) = false := decide_eq_false (by omega)
    clear c2
    by_cases c5 : 4 ≤ (l0.length : Int)
    · rw [if_pos c5] at H
      have c5b0 := eq_true c5
      have c5b1 : decide (4 ≤ (l0.length : Int)) = true := decide_eq_true c5
      clear c5
      by_cases c6 : (strOfNums (l0.take 4)).toList = ([84, 90, 105, 102] : List UInt8)
      · rw [if_pos c6] at H
        have c6b0 : ((strOfNums (l0.take 4)).toList == ([84, 90, 105, 102] : List UInt8)) = true := beq_iff_eq.mpr c6
        have c6b1 : ((strOfNums (l0.take 4)).toList != ([84, 90, 105, 102] : List UInt8)) = false := bne_eq_false_iff_eq.mpr c6
        clear c6
        by_cases c7 : 4 < (l0.length : Int)
        · rw [if_pos c7] at H
          have c7b0 : decide (4 < (l0.length : Int)) = true := decide_eq_true c7
          have c7b1 : decide (4 < l0.length) = true := decide_eq_true (by omega)
          clear c7
          have HC8 := Aside0.mk H
          clear H
          go_enter Try.func18, Try.ntmps18
          go_upto_if 23 with (first | ((with_reducible refine gate_dst (N := 2) rfl ?_); refine box_event ?hg (N := 2) ?hd (cs := #[.int .i64 0, .int .i64 0, .int .i64 0, .int .i64 0, .int .i64 0, .int .i64 0, .int .i64 0]) (t := 26) ?hr ?_; (case hd => rfl); (case hg => rfl); (case hr => first | (go_simp; done) | (go_simp; rfl)); intro gb148 hg w9 hbox hb; have n0_ := Aside0.mk (below_step (by repeat (first | (with_reducible first | exact HB.out | apply below_alloc | apply pw_below_drewN | apply below_drew1) | exact HB.out)) hb); have n1_ := Aside0.mk (hbox); have n2_ := Aside0.mk ((by rw [hg]; exact (below_size (by repeat (first | (with_reducible first | exact HB.out | apply below_alloc | apply pw_below_drewN | apply below_drew1) | exact HB.out))) : w.heap.size ≤ gb148)); have n3_ := Aside0.mk ((by rw [hg]; exact (below_size (by repeat (first | (with_reducible first | exact HB.out | apply below_alloc | apply pw_below_drewN | apply below_drew1) | exact HB.out))) : w.heap.size ≤ gb148)); clear HB; have HB := n0_; have BK148 := n1_; have GW148 := n2_; have GE148 := n3_; clear n0_ n1_ n2_ n3_; clear hb hbox hg; obtain ⟨i010, hi010, _, hsz10, _⟩ := info_parts info5; obtain ⟨hcut10, hA10, hC10⟩ := print_take_of (P := Try.prog) (Value.int .u8) 0 28 5 .i64 Try.underlying28 hi010 hsz10 A0 c0 l0 4 (by omega) (of_decide_eq_true (by first | (with_reducible assumption) | assumption)) HC0.out; have HR149 := Aside0.mk (Kd.C_of_reads (h1 := fun _ => rfl) (hA10 _ (Kd.reads_of_C HR0.out))); have HC149 := Aside0.mk hC10; clear hA10 hC10 hi010 hsz10; generalize hL_ : List.take (Int.toNat 4) l0 = L_4 at hcut10 HR149 HC149; (try rw [show l0.take 4 = L_4 from hL_] at c6b0 c6b1); have hcv11 := Kd.C_string (P := Try.prog) (A := A0) (c := c0) Try.underlying28 Try.underlying5 Try.underlying9 (Kd.C_below HR149.out HB.out)) | ((with_reducible refine gate_dst (N := 4) rfl ?_); refine box_event ?hg (N := 4) ?hd (cs := #[.int .i64 0, .int .i64 0, .int .i64 0, .int .i64 0, .int .i64 0, .int .i64 0, .int .i64 0]) (t := 26) ?hr ?_; (case hd => rfl); (case hg => rfl); (case hr => first | (go_simp; done) | (go_simp; rfl)); intro gb150 hg w12 hbox hb; have n0_ := Aside0.mk (blk_below (g := gb148) (o := .cells #[.int .i64 0, .int .i64 0, .int .i64 0, .int .i64 0, .int .i64 0, .int .i64 0, .int .i64 0] 26 (0, 0)) (by (with_reducible repeat (first | refine blk_drewN ?_ _ | refine blk_drew ?_ | refine blk_alloc ?_ _)); exact BK148.out) hb); have n1_ := Aside0.mk (below_step (by repeat (first | (with_reducible first | exact HB.out | apply below_alloc | apply pw_below_drewN | apply below_drew1 | refine below_set ?_ GE148.out) | exact HB.out)) hb); have n2_ := Aside0.mk (hbox); have n3_ := Aside0.mk ((by rw [hg]; exact (below_size (by repeat (first | (with_reducible first | exact HB.out | apply below_alloc | apply pw_below_drewN | apply below_drew1 | refine below_set ?_ GE148.out) | exact HB.out))) : w.heap.size ≤ gb150)); have n4_ := Aside0.mk ((by rw [hg]; exact (below_size (by repeat (first | (with_reducible first | exact HB.out | apply below_alloc | apply pw_below_drewN | apply below_drew1 | refine below_set ?_ GE148.out) | exact HB.out))) : w.heap.size ≤ gb150)); have n5_ := Aside0.mk ((by rw [hg]; exact Nat.ne_of_lt (blk_lt (g := gb148) (o := .cells #[.int .i64 0, .int .i64 0, .int .i64 0, .int .i64 0, .int .i64 0, .int .i64 0, .int .i64 0] 26 (0, 0)) (by (with_reducible repeat (first | refine blk_drewN ?_ _ | refine blk_drew ?_ | refine blk_alloc ?_ _)); exact BK148.out)) : gb148 ≠ gb150)); have n6_ := Aside0.mk ((by rw [hg]; exact Nat.ne_of_gt (blk_lt (g := gb148) (o := .cells #[.int .i64 0, .int .i64 0, .int .i64 0, .int .i64 0, .int .i64 0, .int .i64 0, .int .i64 0] 26 (0, 0)) (by (with_reducible repeat (first | refine blk_drewN ?_ _ | refine blk_drew ?_ | refine blk_alloc ?_ _)); exact BK148.out)) : gb150 ≠ gb148)); clear BK148; clear HB; have BK148 := n0_; have HB := n1_; have BK150 := n2_; have GW150 := n3_; have GE150 := n4_; have NB148_150 := n5_; have NB150_148 := n6_; clear n0_ n1_ n2_ n3_ n4_ n5_ n6_; clear hb hbox hg; have hnb13 := NB150_148.out; have hnc13 := NB148_150.out; have hcz14_0 : w12.cell? ⟨gb150, 0, none⟩ = some (.int .i64 0) := (blk_cell BK150.out 0).trans rfl; have hcz14_1 : w12.cell? ⟨gb150, 1, none⟩ = some (.int .i64 0) := (blk_cell BK150.out 1).trans rfl; have hcz14_2 : w12.cell? ⟨gb150, 2, none⟩ = some (.int .i64 0) := (blk_cell BK150.out 2).trans rfl; have hcz14_3 : w12.cell? ⟨gb150, 3, none⟩ = some (.int .i64 0) := (blk_cell BK150.out 3).trans rfl; have hcz14_4 : w12.cell? ⟨gb150, 4, none⟩ = some (.int .i64 0) := (blk_cell BK150.out 4).trans rfl; have hcz14_5 : w12.cell? ⟨gb150, 5, none⟩ = some (.int .i64 0) := (blk_cell BK150.out 5).trans rfl; have hcz14_6 : w12.cell? ⟨gb150, 6, none⟩ = some (.int .i64 0) := (blk_cell BK150.out 6).trans rfl; have hfz14_0 := blk_frozen BK150.out 0; have hfz14_1 := blk_frozen BK150.out 1; have hfz14_2 := blk_frozen BK150.out 2; have hfz14_3 := blk_frozen BK150.out 3; have hfz14_4 := blk_frozen BK150.out 4; have hfz14_5 := blk_frozen BK150.out 5; have hfz14_6 := blk_frozen BK150.out 6; have p151 : 0 ≤ (4 : Int) := (by omega); have q151 : 4 < (l0.length : Int) := of_decide_eq_true (by first | (with_reducible assumption) | assumption); obtain ⟨ad151, e151, hx151_0⟩ := Kd.at_int HR0.out 4 p151 q151; cases e151; (try simp only [show (4 : Int).toNat = 4 from rfl, Nat.reduceMul, Nat.reduceEqDiff, Go.Addr.add, ↓reduceIte] at hx151_0); have qi151 : (4 < l0.length) = True := eq_true (by omega); (try rw [show ((4 : Int)).toNat = 4 from rfl] at hx151_0); have hn151_0 : ad151.block ≠ gb150 := Nat.ne_of_lt (Nat.lt_of_lt_of_le (by have := World.block_lt_of_cell? _ _ hx151_0; first | rwa [add_block] at this | exact this) GW150.out); have hn151_1 : ad151.block ≠ gb150 := Nat.ne_of_lt (Nat.lt_of_lt_of_le (by have := World.block_lt_of_cell? _ _ hx151_0; first | rwa [add_block] at this | exact this) GW150.out); have hn151_2 : ad151.block ≠ gb150 := Nat.ne_of_lt (Nat.lt_of_lt_of_le (by have := World.block_lt_of_cell? _ _ hx151_0; first | rwa [add_block] at this | exact this) GW150.out); have hn151_3 : ad151.block ≠ gb150 := Nat.ne_of_lt (Nat.lt_of_lt_of_le (by have := World.block_lt_of_cell? _ _ hx151_0; first | rwa [add_block] at this | exact this) GW150.out); have hn151_4 : ad151.block ≠ gb150 := Nat.ne_of_lt (Nat.lt_of_lt_of_le (by have := World.block_lt_of_cell? _ _ hx151_0; first | rwa [add_block] at this | exact this) GW150.out); have hn151_5 : ad151.block ≠ gb150 := Nat.ne_of_lt (Nat.lt_of_lt_of_le (by have := World.block_lt_of_cell? _ _ hx151_0; first | rwa [add_block] at this | exact this) GW150.out); have hn151_6 : ad151.block ≠ gb150 := Nat.ne_of_lt (Nat.lt_of_lt_of_le (by have := World.block_lt_of_cell? _ _ hx151_0; first | rwa [add_block] at this | exact this) GW150.out); replace hx151_0 := (HB.out.cell (World.block_lt_of_cell? w _ hx151_0)).trans hx151_0; replace hx151_0 := (cell_far (p := ⟨gb150, 0, none⟩) (by first | (rw [add_block]; exact hn151_0) | (show (Addr.add _ _).block ≠ _; rw [add_block]; exact hn151_0) | exact hn151_0) (.int .i64 1)).trans hx151_0; replace hx151_0 := (cell_far (p := ⟨gb150, 1, none⟩) (by first | (rw [add_block]; exact hn151_1) | (show (Addr.add _ _).block ≠ _; rw [add_block]; exact hn151_1) | exact hn151_1) (.int .i64 0)).trans hx151_0; replace hx151_0 := (cell_far (p := ⟨gb150, 2, none⟩) (by first | (rw [add_block]; exact hn151_2) | (show (Addr.add _ _).block ≠ _; rw [add_block]; exact hn151_2) | exact hn151_2) (.int .i64 0)).trans hx151_0; replace hx151_0 := (cell_far (p := ⟨gb150, 3, none⟩) (by first | (rw [add_block]; exact hn151_3) | (show (Addr.add _ _).block ≠ _; rw [add_block]; exact hn151_3) | exact hn151_3) (.int .i64 0)).trans hx151_0; replace hx151_0 := (cell_far (p := ⟨gb150, 4, none⟩) (by first | (rw [add_block]; exact hn151_4) | (show (Addr.add _ _).block ≠ _; rw [add_block]; exact hn151_4) | exact hn151_4) (.int .i64 0)).trans hx151_0; replace hx151_0 := (cell_far (p := ⟨gb150, 5, none⟩) (by first | (rw [add_block]; exact hn151_5) | (show (Addr.add _ _).block ≠ _; rw [add_block]; exact hn151_5) | exact hn151_5) (.int .i64 0)).trans hx151_0; replace hx151_0 := (cell_far (p := ⟨gb150, 6, none⟩) (by first | (rw [add_block]; exact hn151_6) | (show (Addr.add _ _).block ≠ _; rw [add_block]; exact hn151_6) | exact hn151_6) (.int .i64 0)).trans hx151_0; clear hn151_0; clear hn151_1; clear hn151_2; clear hn151_3; clear hn151_4; clear hn151_5; clear hn151_6; replace p151 := eq_true p151; replace q151 := eq_true q151))
          (try simp only [Act.put, List.setIfInBounds_toArray, List.set_cons_zero, List.set_cons_succ])
          go_cut [] (fun wc => ∃ (kq : Nat) (x149000_7 : Int) (x149001_7 : Int) (x149002_7 : Int) (x149003_7 : Int) (x149004_7 : Int) (x149005_7 : Int) (x149006_7 : Int) (x151000_7 : Int), Aside0 (longcaseref05_Decode.j0 kq l0 x151000_7 0 0 0 0 0 0 = some (r1, r2, r3, r4, r5, r6, r7, r8)) ∧ Aside0 (kq ≤ k) ∧ Aside0 (wc.heap[gb148]? = some (.cells #[.int .i64 x149000_7, .int .i64 x149001_7, .int .i64 x149002_7, .int .i64 x149003_7, .int .i64 x149004_7, .int .i64 x149005_7, .int .i64 x149006_7] 26 (0, 0))) ∧ Aside0 (wc.heap[gb150]? = some (.cells #[.int .i64 x151000_7, .int .i64 0, .int .i64 0, .int .i64 0, .int .i64 0, .int .i64 0, .int .i64 0] 26 (0, 0))) ∧ Aside0 (Below w.heap.size w wc))
          case first =>
            have H := HC8.out
            clear HC8
            by_cases c15 : (rd l0 4) = 0
            · rw [if_pos c15] at H
              have c15b0 : ((rd l0 4) == 0) = true := beq_iff_eq.mpr c15
              have c15b1 : ((rd l0 4) != 0) = false := bne_eq_false_iff_eq.mpr c15
              clear c15
              (first | rw [c15b0] | rw [c15b1] | (simp only [i64_w, i32_w]; rw [c15b0]) | skip)
              have H' := Aside0.mk H
              clear H
              go_wp2
              go_meet
              case rel => exact ⟨_, (0), (0), (0), (0), (0), (0), (0), (1), H', ⟨by first | omega | exact Nat.le_refl _⟩, ⟨by (with_reducible repeat (first | refine blk_drewN ?_ _ | refine blk_drew ?_ | refine blk_alloc ?_ _)); refine blk_far ?_ NB148_150.out _; (with_reducible repeat (first | refine blk_drewN ?_ _ | refine blk_drew ?_ | refine blk_alloc ?_ _)); refine blk_far ?_ NB148_150.out _; (with_reducible repeat (first | refine blk_drewN ?_ _ | refine blk_drew ?_ | refine blk_alloc ?_ _)); refine blk_far ?_ NB148_150.out _; (with_reducible repeat (first | refine blk_drewN ?_ _ | refine blk_drew ?_ | refine blk_alloc ?_ _)); refine blk_far ?_ NB148_150.out _; (with_reducible repeat (first | refine blk_drewN ?_ _ | refine blk_drew ?_ | refine blk_alloc ?_ _)); refine blk_far ?_ NB148_150.out _; (with_reducible repeat (first | refine blk_drewN ?_ _ | refine blk_drew ?_ | refine blk_alloc ?_ _)); refine blk_far ?_ NB148_150.out _; (with_reducible repeat (first | refine blk_drewN ?_ _ | refine blk_drew ?_ | refine blk_alloc ?_ _)); refine blk_far ?_ NB148_150.out _; (with_reducible repeat (first | refine blk_drewN ?_ _ | refine blk_drew ?_ | refine blk_alloc ?_ _)); exact BK148.out⟩, ⟨by (with_reducible repeat (first | refine blk_drewN ?_ _ | refine blk_drew ?_ | refine blk_alloc ?_ _)); refine blk_put (cs := #[.int .i64 1, .int .i64 0, .int .i64 0, .int .i64 0, .int .i64 0, .int .i64 0, .int .i64 0]) ?_ 6 _ rfl; (with_reducible repeat (first | refine blk_drewN ?_ _ | refine blk_drew ?_ | refine blk_alloc ?_ _)); refine blk_put (cs := #[.int .i64 1, .int .i64 0, .int .i64 0, .int .i64 0, .int .i64 0, .int .i64 0, .int .i64 0]) ?_ 5 _ rfl; (with_reducible repeat (first | refine blk_drewN ?_ _ | refine blk_drew ?_ | refine blk_alloc ?_ _)); refine blk_put (cs := #[.int .i64 1, .int .i64 0, .int .i64 0, .int .i64 0, .int .i64 0, .int .i64 0, .int .i64 0]) ?_ 4 _ rfl; (with_reducible repeat (first | refine blk_drewN ?_ _ | refine blk_drew ?_ | refine blk_alloc ?_ _)); refine blk_put (cs := #[.int .i64 1, .int .i64 0, .int .i64 0, .int .i64 0, .int .i64 0, .int .i64 0, .int .i64 0]) ?_ 3 _ rfl; (with_reducible repeat (first | refine blk_drewN ?_ _ | refine blk_drew ?_ | refine blk_alloc ?_ _)); refine blk_put (cs := #[.int .i64 1, .int .i64 0, .int .i64 0, .int .i64 0, .int .i64 0, .int .i64 0, .int .i64 0]) ?_ 2 _ rfl; (with_reducible repeat (first | refine blk_drewN ?_ _ | refine blk_drew ?_ | refine blk_alloc ?_ _)); refine blk_put (cs := #[.int .i64 1, .int .i64 0, .int .i64 0, .int .i64 0, .int .i64 0, .int .i64 0, .int .i64 0]) ?_ 1 _ rfl; (with_reducible repeat (first | refine blk_drewN ?_ _ | refine blk_drew ?_ | refine blk_alloc ?_ _)); refine blk_put (cs := #[.int .i64 0, .int .i64 0, .int .i64 0, .int .i64 0, .int .i64 0, .int .i64 0, .int .i64 0]) ?_ 0 _ rfl; (with_reducible repeat (first | refine blk_drewN ?_ _ | refine blk_drew ?_ | refine blk_alloc ?_ _)); exact BK150.out⟩, ⟨by repeat (first | (with_reducible first | exact HB.out | apply below_alloc | apply pw_below_drewN | apply below_drew1 | refine below_set ?_ GE148.out | refine below_set ?_ GE150.out) | exact HB.out)⟩⟩
            · rw [if_neg c15] at H
              have c15b0 : ((rd l0 4) == 0) = false := beq_eq_false_iff_ne.mpr c15
              have c15b1 : ((rd l0 4) != 0) = true := bne_iff_ne.mpr c15
              (first | rw [c15b0] | rw [c15b1] | (simp only [i64_w, i32_w]; rw [c15b0]) | skip)
              by_cases c16 : (rd l0 4) < 50
              · rw [if_pos c16] at H
                have c16b0 : decide ((rd l0 4) < 50) = true := decide_eq_true c16
                clear c16
                simp only [Option.some.injEq, Prod.mk.injEq] at H
                obtain ⟨rfl, rfl, rfl, rfl, rfl, rfl, rfl, rfl⟩ := H
                have p152 : 0 ≤ (4 : Int) := (by omega)
                have q152 : 4 < (l0.length : Int) := of_decide_eq_true (by first | (with_reducible assumption) | assumption)
                obtain ⟨ad152, e152, hx152_0⟩ := Kd.at_int HR0.out 4 p152 q152
                obtain rfl : ad151 = ad152 := (by injection e152)
                (try simp only [show (4 : Int).toNat = 4 from rfl, Nat.reduceMul, Nat.reduceEqDiff, Go.Addr.add, ↓reduceIte] at hx152_0)
                have qi152 : (4 < l0.length) = True := eq_true (by omega)
                (try rw [show ((4 : Int)).toNat = 4 from rfl] at hx152_0)
                have hn152_0 : ad151.block ≠ gb150 := Nat.ne_of_lt (Nat.lt_of_lt_of_le (by have := World.block_lt_of_cell? _ _ hx152_0; first | rwa [add_block] at this | exact this) GW150.out)
                have hn152_1 : ad151.block ≠ gb150 := Nat.ne_of_lt (Nat.lt_of_lt_of_le (by have := World.block_lt_of_cell? _ _ hx152_0; first | rwa [add_block] at this | exact this) GW150.out)
                have hn152_2 : ad151.block ≠ gb150 := Nat.ne_of_lt (Nat.lt_of_lt_of_le (by have := World.block_lt_of_cell? _ _ hx152_0; first | rwa [add_block] at this | exact this) GW150.out)
                have hn152_3 : ad151.block ≠ gb150 := Nat.ne_of_lt (Nat.lt_of_lt_of_le (by have := World.block_lt_of_cell? _ _ hx152_0; first | rwa [add_block] at this | exact this) GW150.out)
                have hn152_4 : ad151.block ≠ gb150 := Nat.ne_of_lt (Nat.lt_of_lt_of_le (by have := World.block_lt_of_cell? _ _ hx152_0; first | rwa [add_block] at this | exact this) GW150.out)
                have hn152_5 : ad151.block ≠ gb150 := Nat.ne_of_lt (Nat.lt_of_lt_of_le (by have := World.block_lt_of_cell? _ _ hx152_0; first | rwa [add_block] at this | exact this) GW150.out)
                have hn152_6 : ad151.block ≠ gb150 := Nat.ne_of_lt (Nat.lt_of_lt_of_le (by have := World.block_lt_of_cell? _ _ hx152_0; first | rwa [add_block] at this | exact this) GW150.out)
                replace hx152_0 := (HB.out.cell (World.block_lt_of_cell? w _ hx152_0)).trans hx152_0
                replace hx152_0 := (cell_far (p := ⟨gb150, 0, none⟩) (by first | (rw [add_block]; exact hn152_0) | (show (Addr.add _ _).block ≠ _; rw [add_block]; exact hn152_0) | exact hn152_0) (.int .i64 1)).trans hx152_0
                replace hx152_0 := (cell_far (p := ⟨gb150, 1, none⟩) (by first | (rw [add_block]; exact hn152_1) | (show (Addr.add _ _).block ≠ _; rw [add_block]; exact hn152_1) | exact hn152_1) (.int .i64 0)).trans hx152_0
                replace hx152_0 := (cell_far (p := ⟨gb150, 2, none⟩) (by first | (rw [add_block]; exact hn152_2) | (show (Addr.add _ _).block ≠ _; rw [add_block]; exact hn152_2) | exact hn152_2) (.int .i64 0)).trans hx152_0
                replace hx152_0 := (cell_far (p := ⟨gb150, 3, none⟩) (by first | (rw [add_block]; exact hn152_3) | (show (Addr.add _ _).block ≠ _; rw [add_block]; exact hn152_3) | exact hn152_3) (.int .i64 0)).trans hx152_0
                replace hx152_0 := (cell_far (p := ⟨gb150, 4, none⟩) (by first | (rw [add_block]; exact hn152_4) | (show (Addr.add _ _).block ≠ _; rw [add_block]; exact hn152_4) | exact hn152_4) (.int .i64 0)).trans hx152_0
                replace hx152_0 := (cell_far (p := ⟨gb150, 5, none⟩) (by first | (rw [add_block]; exact hn152_5) | (show (Addr.add _ _).block ≠ _; rw [add_block]; exact hn152_5) | exact hn152_5) (.int .i64 0)).trans hx152_0
                replace hx152_0 := (cell_far (p := ⟨gb150, 6, none⟩) (by first | (rw [add_block]; exact hn152_6) | (show (Addr.add _ _).block ≠ _; rw [add_block]; exact hn152_6) | exact hn152_6) (.int .i64 0)).trans hx152_0
                clear hn152_0
                clear hn152_1
                clear hn152_2
                clear hn152_3
                clear hn152_4
                clear hn152_5
                clear hn152_6
                replace p152 := eq_true p152
                replace q152 := eq_true q152
                have hnb17 := NB148_150.out
                have hnc17 := NB150_148.out
                have hcz18_0 : w12.cell? ⟨gb148, 0, none⟩ = some (.int .i64 0) := (blk_cell BK148.out 0).trans rfl
                have hcz18_1 : w12.cell? ⟨gb148, 1, none⟩ = some (.int .i64 0) := (blk_cell BK148.out 1).trans rfl
                have hcz18_2 : w12.cell? ⟨gb148, 2, none⟩ = some (.int .i64 0) := (blk_cell BK148.out 2).trans rfl
                have hcz18_3 : w12.cell? ⟨gb148, 3, none⟩ = some (.int .i64 0) := (blk_cell BK148.out 3).trans rfl
                have hcz18_4 : w12.cell? ⟨gb148, 4, none⟩ = some (.int .i64 0) := (blk_cell BK148.out 4).trans rfl
                have hcz18_5 : w12.cell? ⟨gb148, 5, none⟩ = some (.int .i64 0) := (blk_cell BK148.out 5).trans rfl
                have hcz18_6 : w12.cell? ⟨gb148, 6, none⟩ = some (.int .i64 0) := (blk_cell BK148.out 6).trans rfl
                have hfz18_0 := blk_frozen BK148.out 0
                have hfz18_1 := blk_frozen BK148.out 1
                have hfz18_2 := blk_frozen BK148.out 2
                have hfz18_3 := blk_frozen BK148.out 3
                have hfz18_4 := blk_frozen BK148.out 4
                have hfz18_5 := blk_frozen BK148.out 5
                have hfz18_6 := blk_frozen BK148.out 6
                go_wp2
                refine bodyPost_ret (results_ct rfl _ _ gb148 26 #[.int .i64 0, .int .i64 0, .int .i64 0, .int .i64 0, .int .i64 0, .int .i64 0, .int .i64 0] (0, 0) _ rfl (by (with_reducible repeat (first | refine blk_drewN ?_ _ | refine blk_drew ?_ | refine blk_alloc ?_ _)); refine blk_put (cs := #[.int .i64 0, .int .i64 0, .int .i64 0, .int .i64 0, .int .i64 0, .int .i64 0, .int .i64 0]) ?_ 6 _ rfl; (with_reducible repeat (first | refine blk_drewN ?_ _ | refine blk_drew ?_ | refine blk_alloc ?_ _)); refine blk_put (cs := #[.int .i64 0, .int .i64 0, .int .i64 0, .int .i64 0, .int .i64 0, .int .i64 0, .int .i64 0]) ?_ 5 _ rfl; (with_reducible repeat (first | refine blk_drewN ?_ _ | refine blk_drew ?_ | refine blk_alloc ?_ _)); refine blk_put (cs := #[.int .i64 0, .int .i64 0, .int .i64 0, .int .i64 0, .int .i64 0, .int .i64 0, .int .i64 0]) ?_ 4 _ rfl; (with_reducible repeat (first | refine blk_drewN ?_ _ | refine blk_drew ?_ | refine blk_alloc ?_ _)); refine blk_put (cs := #[.int .i64 0, .int .i64 0, .int .i64 0, .int .i64 0, .int .i64 0, .int .i64 0, .int .i64 0]) ?_ 3 _ rfl; (with_reducible repeat (first | refine blk_drewN ?_ _ | refine blk_drew ?_ | refine blk_alloc ?_ _)); refine blk_put (cs := #[.int .i64 0, .int .i64 0, .int .i64 0, .int .i64 0, .int .i64 0, .int .i64 0, .int .i64 0]) ?_ 2 _ rfl; (with_reducible repeat (first | refine blk_drewN ?_ _ | refine blk_drew ?_ | refine blk_alloc ?_ _)); refine blk_put (cs := #[.int .i64 0, .int .i64 0, .int .i64 0, .int .i64 0, .int .i64 0, .int .i64 0, .int .i64 0]) ?_ 1 _ rfl; (with_reducible repeat (first | refine blk_drewN ?_ _ | refine blk_drew ?_ | refine blk_alloc ?_ _)); refine blk_put (cs := #[.int .i64 0, .int .i64 0, .int .i64 0, .int .i64 0, .int .i64 0, .int .i64 0, .int .i64 0]) ?_ 0 _ rfl; (with_reducible repeat (first | refine blk_drewN ?_ _ | refine blk_drew ?_ | refine blk_alloc ?_ _)); refine blk_far ?_ NB148_150.out _; (with_reducible repeat (first | refine blk_drewN ?_ _ | refine blk_drew ?_ | refine blk_alloc ?_ _)); refine blk_far ?_ NB148_150.out _; (with_reducible repeat (first | refine blk_drewN ?_ _ | refine blk_drew ?_ | refine blk_alloc ?_ _)); refine blk_far ?_ NB148_150.out _; (with_reducible repeat (first | refine blk_drewN ?_ _ | refine blk_drew ?_ | refine blk_alloc ?_ _)); refine blk_far ?_ NB148_150.out _; (with_reducible repeat (first | refine blk_drewN ?_ _ | refine blk_drew ?_ | refine blk_alloc ?_ _)); refine blk_far ?_ NB148_150.out _; (with_reducible repeat (first | refine blk_drewN ?_ _ | refine blk_drew ?_ | refine blk_alloc ?_ _)); refine blk_far ?_ NB148_150.out _; (with_reducible repeat (first | refine blk_drewN ?_ _ | refine blk_drew ?_ | refine blk_alloc ?_ _)); refine blk_far ?_ NB148_150.out _; (with_reducible repeat (first | refine blk_drewN ?_ _ | refine blk_drew ?_ | refine blk_alloc ?_ _)); exact BK148.out) Try.underlying26 rfl (by kernel_rfl)) rfl ?_
                exact ⟨by first | rfl | (simp [errW_none, errW_some] <;> rfl) | (simp [*, errW_none, errW_some] <;> rfl), by repeat (first | (with_reducible first | exact HB.out | apply below_alloc | apply pw_below_drewN | apply below_drew1 | refine below_set ?_ GE148.out | refine below_set ?_ GE150.out) | exact HB.out)⟩
              · rw [if_neg c16] at H
                have c16b0 : decide ((rd l0 4) < 50) = false := decide_eq_false c16
                clear c16
                by_cases c19 : (rd l0 4) > 52
                · rw [if_pos c19] at H
                  have c19b0 : decide (52 < (rd l0 4)) = true := decide_eq_true c19
                  clear c19
                  simp only [Option.some.injEq, Prod.mk.injEq] at H
                  obtain ⟨rfl, rfl, rfl, rfl, rfl, rfl, rfl, rfl⟩ := H
                  have p152 : 0 ≤ (4 : Int) := (by omega)
                  have q152 : 4 < (l0.length : Int) := of_decide_eq_true (by first | (with_reducible assumption) | assumption)
                  obtain ⟨ad152, e152, hx152_0⟩ := Kd.at_int HR0.out 4 p152 q152
                  obtain rfl : ad151 = ad152 := (by injection e152)
                  (try simp only [show (4 : Int).toNat = 4 from rfl, Nat.reduceMul, Nat.reduceEqDiff, Go.Addr.add, ↓reduceIte] at hx152_0)
                  have qi152 : (4 < l0.length) = True := eq_true (by omega)
                  (try rw [show ((4 : Int)).toNat = 4 from rfl] at hx152_0)
                  have hn152_0 : ad151.block ≠ gb150 := Nat.ne_of_lt (Nat.lt_of_lt_of_le (by have := World.block_lt_of_cell? _ _ hx152_0; first | rwa [add_block] at this | exact this) GW150.out)
                  have hn152_1 : ad151.block ≠ gb150 := Nat.ne_of_lt (Nat.lt_of_lt_of_le (by have := World.block_lt_of_cell? _ _ hx152_0; first | rwa [add_block] at this | exact this) GW150.out)
                  have hn152_2 : ad151.block ≠ gb150 := Nat.ne_of_lt (Nat.lt_of_lt_of_le (by have := World.block_lt_of_cell? _ _ hx152_0; first | rwa [add_block] at this | exact this) GW150.out)
                  have hn152_3 : ad151.block ≠ gb150 := Nat.ne_of_lt (Nat.lt_of_lt_of_le (by have := World.block_lt_of_cell? _ _ hx152_0; first | rwa [add_block] at this | exact this) GW150.out)
                  have hn152_4 : ad151.block ≠ gb150 := Nat.ne_of_lt (Nat.lt_of_lt_of_le (by have := World.block_lt_of_cell? _ _ hx152_0; first | rwa [add_block] at this | exact this) GW150.out)
                  have hn152_5 : ad151.block ≠ gb150 := Nat.ne_of_lt (Nat.lt_of_lt_of_le (by have := World.block_lt_of_cell? _ _ hx152_0; first | rwa [add_block] at this | exact this) GW150.out)
                  have hn152_6 : ad151.block ≠ gb150 := Nat.ne_of_lt (Nat.lt_of_lt_of_le (by have := World.block_lt_of_cell? _ _ hx152_0; first | rwa [add_block] at this | exact this) GW150.out)
                  replace hx152_0 := (HB.out.cell (World.block_lt_of_cell? w _ hx152_0)).trans hx152_0
                  replace hx152_0 := (cell_far (p := ⟨gb150, 0, none⟩) (by first | (rw [add_block]; exact hn152_0) | (show (Addr.add _ _).block ≠ _; rw [add_block]; exact hn152_0) | exact hn152_0) (.int .i64 1)).trans hx152_0
                  replace hx152_0 := (cell_far (p := ⟨gb150, 1, none⟩) (by first | (rw [add_block]; exact hn152_1) | (show (Addr.add _ _).block ≠ _; rw [add_block]; exact hn152_1) | exact hn152_1) (.int .i64 0)).trans hx152_0
                  replace hx152_0 := (cell_far (p := ⟨gb150, 2, none⟩) (by first | (rw [add_block]; exact hn152_2) | (show (Addr.add _ _).block ≠ _; rw [add_block]; exact hn152_2) | exact hn152_2) (.int .i64 0)).trans hx152_0
                  replace hx152_0 := (cell_far (p := ⟨gb150, 3, none⟩) (by first | (rw [add_block]; exact hn152_3) | (show (Addr.add _ _).block ≠ _; rw [add_block]; exact hn152_3) | exact hn152_3) (.int .i64 0)).trans hx152_0
                  replace hx152_0 := (cell_far (p := ⟨gb150, 4, none⟩) (by first | (rw [add_block]; exact hn152_4) | (show (Addr.add _ _).block ≠ _; rw [add_block]; exact hn152_4) | exact hn152_4) (.int .i64 0)).trans hx152_0
                  replace hx152_0 := (cell_far (p := ⟨gb150, 5, none⟩) (by first | (rw [add_block]; exact hn152_5) | (show (Addr.add _ _).block ≠ _; rw [add_block]; exact hn152_5) | exact hn152_5) (.int .i64 0)).trans hx152_0
                  replace hx152_0 := (cell_far (p := ⟨gb150, 6, none⟩) (by first | (rw [add_block]; exact hn152_6) | (show (Addr.add _ _).block ≠ _; rw [add_block]; exact hn152_6) | exact hn152_6) (.int .i64 0)).trans hx152_0
                  clear hn152_0
                  clear hn152_1
                  clear hn152_2
                  clear hn152_3
                  clear hn152_4
                  clear hn152_5
                  clear hn152_6
                  replace p152 := eq_true p152
                  replace q152 := eq_true q152
                  have p153 : 0 ≤ (4 : Int) := (by omega)
                  have q153 : 4 < (l0.length : Int) := of_decide_eq_true (by first | (with_reducible assumption) | assumption)
                  obtain ⟨ad153, e153, hx153_0⟩ := Kd.at_int HR0.out 4 p153 q153
                  obtain rfl : ad151 = ad153 := (by injection e153)
                  (try simp only [show (4 : Int).toNat = 4 from rfl, Nat.reduceMul, Nat.reduceEqDiff, Go.Addr.add, ↓reduceIte] at hx153_0)
                  have qi153 : (4 < l0.length) = True := eq_true (by omega)
                  (try rw [show ((4 : Int)).toNat = 4 from rfl] at hx153_0)
                  have hn153_0 : ad151.block ≠ gb150 := Nat.ne_of_lt (Nat.lt_of_lt_of_le (by have := World.block_lt_of_cell? _ _ hx153_0; first | rwa [add_block] at this | exact this) GW150.out)
                  have hn153_1 : ad151.block ≠ gb150 := Nat.ne_of_lt (Nat.lt_of_lt_of_le (by have := World.block_lt_of_cell? _ _ hx153_0; first | rwa [add_block] at this | exact this) GW150.out)
                  have hn153_2 : ad151.block ≠ gb150 := Nat.ne_of_lt (Nat.lt_of_lt_of_le (by have := World.block_lt_of_cell? _ _ hx153_0; first | rwa [add_block] at this | exact this) GW150.out)
                  have hn153_3 : ad151.block ≠ gb150 := Nat.ne_of_lt (Nat.lt_of_lt_of_le (by have := World.block_lt_of_cell? _ _ hx153_0; first | rwa [add_block] at this | exact this) GW150.out)
                  have hn153_4 : ad151.block ≠ gb150 := Nat.ne_of_lt (Nat.lt_of_lt_of_le (by have := World.block_lt_of_cell? _ _ hx153_0; first | rwa [add_block] at this | exact this) GW150.out)
                  have hn153_5 : ad151.block ≠ gb150 := Nat.ne_of_lt (Nat.lt_of_lt_of_le (by have := World.block_lt_of_cell? _ _ hx153_0; first | rwa [add_block] at this | exact this) GW150.out)
                  have hn153_6 : ad151.block ≠ gb150 := Nat.ne_of_lt (Nat.lt_of_lt_of_le (by have := World.block_lt_of_cell? _ _ hx153_0; first | rwa [add_block] at this | exact this) GW150.out)
                  replace hx153_0 := (HB.out.cell (World.block_lt_of_cell? w _ hx153_0)).trans hx153_0
                  replace hx153_0 := (cell_far (p := ⟨gb150, 0, none⟩) (by first | (rw [add_block]; exact hn153_0) | (show (Addr.add _ _).block ≠ _; rw [add_block]; exact hn153_0) | exact hn153_0) (.int .i64 1)).trans hx153_0
                  replace hx153_0 := (cell_far (p := ⟨gb150, 1, none⟩) (by first | (rw [add_block]; exact hn153_1) | (show (Addr.add _ _).block ≠ _; rw [add_block]; exact hn153_1) | exact hn153_1) (.int .i64 0)).trans hx153_0
                  replace hx153_0 := (cell_far (p := ⟨gb150, 2, none⟩) (by first | (rw [add_block]; exact hn153_2) | (show (Addr.add _ _).block ≠ _; rw [add_block]; exact hn153_2) | exact hn153_2) (.int .i64 0)).trans hx153_0
                  replace hx153_0 := (cell_far (p := ⟨gb150, 3, none⟩) (by first | (rw [add_block]; exact hn153_3) | (show (Addr.add _ _).block ≠ _; rw [add_block]; exact hn153_3) | exact hn153_3) (.int .i64 0)).trans hx153_0
                  replace hx153_0 := (cell_far (p := ⟨gb150, 4, none⟩) (by first | (rw [add_block]; exact hn153_4) | (show (Addr.add _ _).block ≠ _; rw [add_block]; exact hn153_4) | exact hn153_4) (.int .i64 0)).trans hx153_0
                  replace hx153_0 := (cell_far (p := ⟨gb150, 5, none⟩) (by first | (rw [add_block]; exact hn153_5) | (show (Addr.add _ _).block ≠ _; rw [add_block]; exact hn153_5) | exact hn153_5) (.int .i64 0)).trans hx153_0
                  replace hx153_0 := (cell_far (p := ⟨gb150, 6, none⟩) (by first | (rw [add_block]; exact hn153_6) | (show (Addr.add _ _).block ≠ _; rw [add_block]; exact hn153_6) | exact hn153_6) (.int .i64 0)).trans hx153_0
                  clear hn153_0
                  clear hn153_1
                  clear hn153_2
                  clear hn153_3
                  clear hn153_4
                  clear hn153_5
                  clear hn153_6
                  replace p153 := eq_true p153
                  replace q153 := eq_true q153
                  have hnb20 := NB148_150.out
                  have hnc20 := NB150_148.out
                  have hcz21_0 : w12.cell? ⟨gb148, 0, none⟩ = some (.int .i64 0) := (blk_cell BK148.out 0).trans rfl
                  have hcz21_1 : w12.cell? ⟨gb148, 1, none⟩ = some (.int .i64 0) := (blk_cell BK148.out 1).trans rfl
                  have hcz21_2 : w12.cell? ⟨gb148, 2, none⟩ = some (.int .i64 0) := (blk_cell BK148.out 2).trans rfl
                  have hcz21_3 : w12.cell? ⟨gb148, 3, none⟩ = some (.int .i64 0) := (blk_cell BK148.out 3).trans rfl
                  have hcz21_4 : w12.cell? ⟨gb148, 4, none⟩ = some (.int .i64 0) := (blk_cell BK148.out 4).trans rfl
                  have hcz21_5 : w12.cell? ⟨gb148, 5, none⟩ = some (.int .i64 0) := (blk_cell BK148.out 5).trans rfl
                  have hcz21_6 : w12.cell? ⟨gb148, 6, none⟩ = some (.int .i64 0) := (blk_cell BK148.out 6).trans rfl
                  have hfz21_0 := blk_frozen BK148.out 0
                  have hfz21_1 := blk_frozen BK148.out 1
                  have hfz21_2 := blk_frozen BK148.out 2
                  have hfz21_3 := blk_frozen BK148.out 3
                  have hfz21_4 := blk_frozen BK148.out 4
                  have hfz21_5 := blk_frozen BK148.out 5
                  have hfz21_6 := blk_frozen BK148.out 6
                  go_wp2
                  refine bodyPost_ret (results_ct rfl _ _ gb148 26 #[.int .i64 0, .int .i64 0, .int .i64 0, .int .i64 0, .int .i64 0, .int .i64 0, .int .i64 0] (0, 0) _ rfl (by (with_reducible repeat (first | refine blk_drewN ?_ _ | refine blk_drew ?_ | refine blk_alloc ?_ _)); refine blk_put (cs := #[.int .i64 0, .int .i64 0, .int .i64 0, .int .i64 0, .int .i64 0, .int .i64 0, .int .i64 0]) ?_ 6 _ rfl; (with_reducible repeat (first | refine blk_drewN ?_ _ | refine blk_drew ?_ | refine blk_alloc ?_ _)); refine blk_put (cs := #[.int .i64 0, .int .i64 0, .int .i64 0, .int .i64 0, .int .i64 0, .int .i64 0, .int .i64 0]) ?_ 5 _ rfl; (with_reducible repeat (first | refine blk_drewN ?_ _ | refine blk_drew ?_ | refine blk_alloc ?_ _)); refine blk_put (cs := #[.int .i64 0, .int .i64 0, .int .i64 0, .int .i64 0, .int .i64 0, .int .i64 0, .int .i64 0]) ?_ 4 _ rfl; (with_reducible repeat (first | refine blk_drewN ?_ _ | refine blk_drew ?_ | refine blk_alloc ?_ _)); refine blk_put (cs := #[.int .i64 0, .int .i64 0, .int .i64 0, .int .i64 0, .int .i64 0, .int .i64 0, .int .i64 0]) ?_ 3 _ rfl; (with_reducible repeat (first | refine blk_drewN ?_ _ | refine blk_drew ?_ | refine blk_alloc ?_ _)); refine blk_put (cs := #[.int .i64 0, .int .i64 0, .int .i64 0, .int .i64 0, .int .i64 0, .int .i64 0, .int .i64 0]) ?_ 2 _ rfl; (with_reducible repeat (first | refine blk_drewN ?_ _ | refine blk_drew ?_ | refine blk_alloc ?_ _)); refine blk_put (cs := #[.int .i64 0, .int .i64 0, .int .i64 0, .int .i64 0, .int .i64 0, .int .i64 0, .int .i64 0]) ?_ 1 _ rfl; (with_reducible repeat (first | refine blk_drewN ?_ _ | refine blk_drew ?_ | refine blk_alloc ?_ _)); refine blk_put (cs := #[.int .i64 0, .int .i64 0, .int .i64 0, .int .i64 0, .int .i64 0, .int .i64 0, .int .i64 0]) ?_ 0 _ rfl; (with_reducible repeat (first | refine blk_drewN ?_ _ | refine blk_drew ?_ | refine blk_alloc ?_ _)); refine blk_far ?_ NB148_150.out _; (with_reducible repeat (first | refine blk_drewN ?_ _ | refine blk_drew ?_ | refine blk_alloc ?_ _)); refine blk_far ?_ NB148_150.out _; (with_reducible repeat (first | refine blk_drewN ?_ _ | refine blk_drew ?_ | refine blk_alloc ?_ _)); refine blk_far ?_ NB148_150.out _; (with_reducible repeat (first | refine blk_drewN ?_ _ | refine blk_drew ?_ | refine blk_alloc ?_ _)); refine blk_far ?_ NB148_150.out _; (with_reducible repeat (first | refine blk_drewN ?_ _ | refine blk_drew ?_ | refine blk_alloc ?_ _)); refine blk_far ?_ NB148_150.out _; (with_reducible repeat (first | refine blk_drewN ?_ _ | refine blk_drew ?_ | refine blk_alloc ?_ _)); refine blk_far ?_ NB148_150.out _; (with_reducible repeat (first | refine blk_drewN ?_ _ | refine blk_drew ?_ | refine blk_alloc ?_ _)); refine blk_far ?_ NB148_150.out _; (with_reducible repeat (first | refine blk_drewN ?_ _ | refine blk_drew ?_ | refine blk_alloc ?_ _)); exact BK148.out) Try.underlying26 rfl (by kernel_rfl)) rfl ?_
                  exact ⟨by first | rfl | (simp [errW_none, errW_some] <;> rfl) | (simp [*, errW_none, errW_some] <;> rfl), by repeat (first | (with_reducible first | exact HB.out | apply below_alloc | apply pw_below_drewN | apply below_drew1 | refine below_set ?_ GE148.out | refine below_set ?_ GE150.out) | exact HB.out)⟩
                · rw [if_neg c19] at H
                  have c19b0 : decide (52 < (rd l0 4)) = false := decide_eq_false c19
                  clear c19
                  have H' := Aside0.mk H
                  clear H
                  have p152 : 0 ≤ (4 : Int) := (by omega)
                  have q152 : 4 < (l0.length : Int) := of_decide_eq_true (by first | (with_reducible assumption) | assumption)
                  obtain ⟨ad152, e152, hx152_0⟩ := Kd.at_int HR0.out 4 p152 q152
                  obtain rfl : ad151 = ad152 := (by injection e152)
                  (try simp only [show (4 : Int).toNat = 4 from rfl, Nat.reduceMul, Nat.reduceEqDiff, Go.Addr.add, ↓reduceIte] at hx152_0)
                  have qi152 : (4 < l0.length) = True := eq_true (by omega)
                  (try rw [show ((4 : Int)).toNat = 4 from rfl] at hx152_0)
                  have hn152_0 : ad151.block ≠ gb150 := Nat.ne_of_lt (Nat.lt_of_lt_of_le (by have := World.block_lt_of_cell? _ _ hx152_0; first | rwa [add_block] at this | exact this) GW150.out)
                  have hn152_1 : ad151.block ≠ gb150 := Nat.ne_of_lt (Nat.lt_of_lt_of_le (by have := World.block_lt_of_cell? _ _ hx152_0; first | rwa [add_block] at this | exact this) GW150.out)
                  have hn152_2 : ad151.block ≠ gb150 := Nat.ne_of_lt (Nat.lt_of_lt_of_le (by have := World.block_lt_of_cell? _ _ hx152_0; first | rwa [add_block] at this | exact this) GW150.out)
                  have hn152_3 : ad151.block ≠ gb150 := Nat.ne_of_lt (Nat.lt_of_lt_of_le (by have := World.block_lt_of_cell? _ _ hx152_0; first | rwa [add_block] at this | exact this) GW150.out)
                  have hn152_4 : ad151.block ≠ gb150 := Nat.ne_of_lt (Nat.lt_of_lt_of_le (by have := World.block_lt_of_cell? _ _ hx152_0; first | rwa [add_block] at this | exact this) GW150.out)
                  have hn152_5 : ad151.block ≠ gb150 := Nat.ne_of_lt (Nat.lt_of_lt_of_le (by have := World.block_lt_of_cell? _ _ hx152_0; first | rwa [add_block] at this | exact this) GW150.out)
                  have hn152_6 : ad151.block ≠ gb150 := Nat.ne_of_lt (Nat.lt_of_lt_of_le (by have := World.block_lt_of_cell? _ _ hx152_0; first | rwa [add_block] at this | exact this) GW150.out)
                  replace hx152_0 := (HB.out.cell (World.block_lt_of_cell? w _ hx152_0)).trans hx152_0
                  replace hx152_0 := (cell_far (p := ⟨gb150, 0, none⟩) (by first | (rw [add_block]; exact hn152_0) | (show (Addr.add _ _).block ≠ _; rw [add_block]; exact hn152_0) | exact hn152_0) (.int .i64 1)).trans hx152_0
                  replace hx152_0 := (cell_far (p := ⟨gb150, 1, none⟩) (by first | (rw [add_block]; exact hn152_1) | (show (Addr.add _ _).block ≠ _; rw [add_block]; exact hn152_1) | exact hn152_1) (.int .i64 0)).trans hx152_0
                  replace hx152_0 := (cell_far (p := ⟨gb150, 2, none⟩) (by first | (rw [add_block]; exact hn152_2) | (show (Addr.add _ _).block ≠ _; rw [add_block]; exact hn152_2) | exact hn152_2) (.int .i64 0)).trans hx152_0
                  replace hx152_0 := (cell_far (p := ⟨gb150, 3, none⟩) (by first | (rw [add_block]; exact hn152_3) | (show (Addr.add _ _).block ≠ _; rw [add_block]; exact hn152_3) | exact hn152_3) (.int .i64 0)).trans hx152_0
                  replace hx152_0 := (cell_far (p := ⟨gb150, 4, none⟩) (by first | (rw [add_block]; exact hn152_4) | (show (Addr.add _ _).block ≠ _; rw [add_block]; exact hn152_4) | exact hn152_4) (.int .i64 0)).trans hx152_0
                  replace hx152_0 := (cell_far (p := ⟨gb150, 5, none⟩) (by first | (rw [add_block]; exact hn152_5) | (show (Addr.add _ _).block ≠ _; rw [add_block]; exact hn152_5) | exact hn152_5) (.int .i64 0)).trans hx152_0
                  replace hx152_0 := (cell_far (p := ⟨gb150, 6, none⟩) (by first | (rw [add_block]; exact hn152_6) | (show (Addr.add _ _).block ≠ _; rw [add_block]; exact hn152_6) | exact hn152_6) (.int .i64 0)).trans hx152_0
                  clear hn152_0
                  clear hn152_1
                  clear hn152_2
                  clear hn152_3
                  clear hn152_4
                  clear hn152_5
                  clear hn152_6
                  replace p152 := eq_true p152
                  replace q152 := eq_true q152
                  have p153 : 0 ≤ (4 : Int) := (by omega)
                  have q153 : 4 < (l0.length : Int) := of_decide_eq_true (by first | (with_reducible assumption) | assumption)
                  obtain ⟨ad153, e153, hx153_0⟩ := Kd.at_int HR0.out 4 p153 q153
                  obtain rfl : ad151 = ad153 := (by injection e153)
                  (try simp only [show (4 : Int).toNat = 4 from rfl, Nat.reduceMul, Nat.reduceEqDiff, Go.Addr.add, ↓reduceIte] at hx153_0)
                  have qi153 : (4 < l0.length) = True := eq_true (by omega)
                  (try rw [show ((4 : Int)).toNat = 4 from rfl] at hx153_0)
                  have hn153_0 : ad151.block ≠ gb150 := Nat.ne_of_lt (Nat.lt_of_lt_of_le (by have := World.block_lt_of_cell? _ _ hx153_0; first | rwa [add_block] at this | exact this) GW150.out)
                  have hn153_1 : ad151.block ≠ gb150 := Nat.ne_of_lt (Nat.lt_of_lt_of_le (by have := World.block_lt_of_cell? _ _ hx153_0; first | rwa [add_block] at this | exact this) GW150.out)
                  have hn153_2 : ad151.block ≠ gb150 := Nat.ne_of_lt (Nat.lt_of_lt_of_le (by have := World.block_lt_of_cell? _ _ hx153_0; first | rwa [add_block] at this | exact this) GW150.out)
                  have hn153_3 : ad151.block ≠ gb150 := Nat.ne_of_lt (Nat.lt_of_lt_of_le (by have := World.block_lt_of_cell? _ _ hx153_0; first | rwa [add_block] at this | exact this) GW150.out)
                  have hn153_4 : ad151.block ≠ gb150 := Nat.ne_of_lt (Nat.lt_of_lt_of_le (by have := World.block_lt_of_cell? _ _ hx153_0; first | rwa [add_block] at this | exact this) GW150.out)
                  have hn153_5 : ad151.block ≠ gb150 := Nat.ne_of_lt (Nat.lt_of_lt_of_le (by have := World.block_lt_of_cell? _ _ hx153_0; first | rwa [add_block] at this | exact this) GW150.out)
                  have hn153_6 : ad151.block ≠ gb150 := Nat.ne_of_lt (Nat.lt_of_lt_of_le (by have := World.block_lt_of_cell? _ _ hx153_0; first | rwa [add_block] at this | exact this) GW150.out)
                  replace hx153_0 := (HB.out.cell (World.block_lt_of_cell? w _ hx153_0)).trans hx153_0
                  replace hx153_0 := (cell_far (p := ⟨gb150, 0, none⟩) (by first | (rw [add_block]; exact hn153_0) | (show (Addr.add _ _).block ≠ _; rw [add_block]; exact hn153_0) | exact hn153_0) (.int .i64 1)).trans hx153_0
                  replace hx153_0 := (cell_far (p := ⟨gb150, 1, none⟩) (by first | (rw [add_block]; exact hn153_1) | (show (Addr.add _ _).block ≠ _; rw [add_block]; exact hn153_1) | exact hn153_1) (.int .i64 0)).trans hx153_0
                  replace hx153_0 := (cell_far (p := ⟨gb150, 2, none⟩) (by first | (rw [add_block]; exact hn153_2) | (show (Addr.add _ _).block ≠ _; rw [add_block]; exact hn153_2) | exact hn153_2) (.int .i64 0)).trans hx153_0
                  replace hx153_0 := (cell_far (p := ⟨gb150, 3, none⟩) (by first | (rw [add_block]; exact hn153_3) | (show (Addr.add _ _).block ≠ _; rw [add_block]; exact hn153_3) | exact hn153_3) (.int .i64 0)).trans hx153_0
                  replace hx153_0 := (cell_far (p := ⟨gb150, 4, none⟩) (by first | (rw [add_block]; exact hn153_4) | (show (Addr.add _ _).block ≠ _; rw [add_block]; exact hn153_4) | exact hn153_4) (.int .i64 0)).trans hx153_0
                  replace hx153_0 := (cell_far (p := ⟨gb150, 5, none⟩) (by first | (rw [add_block]; exact hn153_5) | (show (Addr.add _ _).block ≠ _; rw [add_block]; exact hn153_5) | exact hn153_5) (.int .i64 0)).trans hx153_0
                  replace hx153_0 := (cell_far (p := ⟨gb150, 6, none⟩) (by first | (rw [add_block]; exact hn153_6) | (show (Addr.add _ _).block ≠ _; rw [add_block]; exact hn153_6) | exact hn153_6) (.int .i64 0)).trans hx153_0
                  clear hn153_0
                  clear hn153_1
                  clear hn153_2
                  clear hn153_3
                  clear hn153_4
                  clear hn153_5
                  clear hn153_6
                  replace p153 := eq_true p153
                  replace q153 := eq_true q153
                  have p154 : 0 ≤ (4 : Int) := (by omega)
                  have q154 : 4 < (l0.length : Int) := of_decide_eq_true (by first | (with_reducible assumption) | assumption)
                  obtain ⟨ad154, e154, hx154_0⟩ := Kd.at_int HR0.out 4 p154 q154
                  obtain rfl : ad151 = ad154 := (by injection e154)
                  (try simp only [show (4 : Int).toNat = 4 from rfl, Nat.reduceMul, Nat.reduceEqDiff, Go.Addr.add, ↓reduceIte] at hx154_0)
                  have qi154 : (4 < l0.length) = True := eq_true (by omega)
                  (try rw [show ((4 : Int)).toNat = 4 from rfl] at hx154_0)
                  have hn154_0 : ad151.block ≠ gb150 := Nat.ne_of_lt (Nat.lt_of_lt_of_le (by have := World.block_lt_of_cell? _ _ hx154_0; first | rwa [add_block] at this | exact this) GW150.out)
                  have hn154_1 : ad151.block ≠ gb150 := Nat.ne_of_lt (Nat.lt_of_lt_of_le (by have := World.block_lt_of_cell? _ _ hx154_0; first | rwa [add_block] at this | exact this) GW150.out)
                  have hn154_2 : ad151.block ≠ gb150 := Nat.ne_of_lt (Nat.lt_of_lt_of_le (by have := World.block_lt_of_cell? _ _ hx154_0; first | rwa [add_block] at this | exact this) GW150.out)
                  have hn154_3 : ad151.block ≠ gb150 := Nat.ne_of_lt (Nat.lt_of_lt_of_le (by have := World.block_lt_of_cell? _ _ hx154_0; first | rwa [add_block] at this | exact this) GW150.out)
                  have hn154_4 : ad151.block ≠ gb150 := Nat.ne_of_lt (Nat.lt_of_lt_of_le (by have := World.block_lt_of_cell? _ _ hx154_0; first | rwa [add_block] at this | exact this) GW150.out)
                  have hn154_5 : ad151.block ≠ gb150 := Nat.ne_of_lt (Nat.lt_of_lt_of_le (by have := World.block_lt_of_cell? _ _ hx154_0; first | rwa [add_block] at this | exact this) GW150.out)
                  have hn154_6 : ad151.block ≠ gb150 := Nat.ne_of_lt (Nat.lt_of_lt_of_le (by have := World.block_lt_of_cell? _ _ hx154_0; first | rwa [add_block] at this | exact this) GW150.out)
                  replace hx154_0 := (HB.out.cell (World.block_lt_of_cell? w _ hx154_0)).trans hx154_0
                  replace hx154_0 := (cell_far (p := ⟨gb150, 0, none⟩) (by first | (rw [add_block]; exact hn154_0) | (show (Addr.add _ _).block ≠ _; rw [add_block]; exact hn154_0) | exact hn154_0) (.int .i64 1)).trans hx154_0
                  replace hx154_0 := (cell_far (p := ⟨gb150, 1, none⟩) (by first | (rw [add_block]; exact hn154_1) | (show (Addr.add _ _).block ≠ _; rw [add_block]; exact hn154_1) | exact hn154_1) (.int .i64 0)).trans hx154_0
                  replace hx154_0 := (cell_far (p := ⟨gb150, 2, none⟩) (by first | (rw [add_block]; exact hn154_2) | (show (Addr.add _ _).block ≠ _; rw [add_block]; exact hn154_2) | exact hn154_2) (.int .i64 0)).trans hx154_0
                  replace hx154_0 := (cell_far (p := ⟨gb150, 3, none⟩) (by first | (rw [add_block]; exact hn154_3) | (show (Addr.add _ _).block ≠ _; rw [add_block]; exact hn154_3) | exact hn154_3) (.int .i64 0)).trans hx154_0
                  replace hx154_0 := (cell_far (p := ⟨gb150, 4, none⟩) (by first | (rw [add_block]; exact hn154_4) | (show (Addr.add _ _).block ≠ _; rw [add_block]; exact hn154_4) | exact hn154_4) (.int .i64 0)).trans hx154_0
                  replace hx154_0 := (cell_far (p := ⟨gb150, 5, none⟩) (by first | (rw [add_block]; exact hn154_5) | (show (Addr.add _ _).block ≠ _; rw [add_block]; exact hn154_5) | exact hn154_5) (.int .i64 0)).trans hx154_0
                  replace hx154_0 := (cell_far (p := ⟨gb150, 6, none⟩) (by first | (rw [add_block]; exact hn154_6) | (show (Addr.add _ _).block ≠ _; rw [add_block]; exact hn154_6) | exact hn154_6) (.int .i64 0)).trans hx154_0
                  clear hn154_0
                  clear hn154_1
                  clear hn154_2
                  clear hn154_3
                  clear hn154_4
                  clear hn154_5
                  clear hn154_6
                  replace p154 := eq_true p154
                  replace q154 := eq_true q154
                  have hnb22 := NB150_148.out
                  have hnc22 := NB148_150.out
                  have hcz23_0 : w12.cell? ⟨gb150, 0, none⟩ = some (.int .i64 0) := (blk_cell BK150.out 0).trans rfl
                  have hcz23_1 : w12.cell? ⟨gb150, 1, none⟩ = some (.int .i64 0) := (blk_cell BK150.out 1).trans rfl
                  have hcz23_2 : w12.cell? ⟨gb150, 2, none⟩ = some (.int .i64 0) := (blk_cell BK150.out 2).trans rfl
                  have hcz23_3 : w12.cell? ⟨gb150, 3, none⟩ = some (.int .i64 0) := (blk_cell BK150.out 3).trans rfl
                  have hcz23_4 : w12.cell? ⟨gb150, 4, none⟩ = some (.int .i64 0) := (blk_cell BK150.out 4).trans rfl
                  have hcz23_5 : w12.cell? ⟨gb150, 5, none⟩ = some (.int .i64 0) := (blk_cell BK150.out 5).trans rfl
                  have hcz23_6 : w12.cell? ⟨gb150, 6, none⟩ = some (.int .i64 0) := (blk_cell BK150.out 6).trans rfl
                  have hfz23_0 := blk_frozen BK150.out 0
                  have hfz23_1 := blk_frozen BK150.out 1
                  have hfz23_2 := blk_frozen BK150.out 2
                  have hfz23_3 := blk_frozen BK150.out 3
                  have hfz23_4 := blk_frozen BK150.out 4
                  have hfz23_5 := blk_frozen BK150.out 5
                  have hfz23_6 := blk_frozen BK150.out 6
                  go_wp2
                  go_meet
                  case rel => exact ⟨_, (0), (0), (0), (0), (0), (0), (0), (((rd l0 4) - 48) % 256), H', ⟨by first | omega | exact Nat.le_refl _⟩, ⟨by (with_reducible repeat (first | refine blk_drewN ?_ _ | refine blk_drew ?_ | refine blk_alloc ?_ _)); refine blk_far ?_ NB148_150.out _; (with_reducible repeat (first | refine blk_drewN ?_ _ | refine blk_drew ?_ | refine blk_alloc ?_ _)); refine blk_far ?_ NB148_150.out _; (with_reducible repeat (first | refine blk_drewN ?_ _ | refine blk_drew ?_ | refine blk_alloc ?_ _)); refine blk_far ?_ NB148_150.out _; (with_reducible repeat (first | refine blk_drewN ?_ _ | refine blk_drew ?_ | refine blk_alloc ?_ _)); refine blk_far ?_ NB148_150.out _; (with_reducible repeat (first | refine blk_drewN ?_ _ | refine blk_drew ?_ | refine blk_alloc ?_ _)); refine blk_far ?_ NB148_150.out _; (with_reducible repeat (first | refine blk_drewN ?_ _ | refine blk_drew ?_ | refine blk_alloc ?_ _)); refine blk_far ?_ NB148_150.out _; (with_reducible repeat (first | refine blk_drewN ?_ _ | refine blk_drew ?_ | refine blk_alloc ?_ _)); refine blk_far ?_ NB148_150.out _; (with_reducible repeat (first | refine blk_drewN ?_ _ | refine blk_drew ?_ | refine blk_alloc ?_ _)); refine blk_far ?_ NB148_150.out _; (with_reducible repeat (first | refine blk_drewN ?_ _ | refine blk_drew ?_ | refine blk_alloc ?_ _)); exact BK148.out⟩, ⟨by (with_reducible repeat (first | refine blk_drewN ?_ _ | refine blk_drew ?_ | refine blk_alloc ?_ _)); refine blk_put (cs := #[.int .i64 1, .int .i64 0, .int .i64 0, .int .i64 0, .int .i64 0, .int .i64 0, .int .i64 0]) ?_ 0 _ rfl; (with_reducible repeat (first | refine blk_drewN ?_ _ | refine blk_drew ?_ | refine blk_alloc ?_ _)); refine blk_put (cs := #[.int .i64 1, .int .i64 0, .int .i64 0, .int .i64 0, .int .i64 0, .int .i64 0, .int .i64 0]) ?_ 6 _ rfl; (with_reducible repeat (first | refine blk_drewN ?_ _ | refine blk_drew ?_ | refine blk_alloc ?_ _)); refine blk_put (cs := #[.int .i64 1, .int .i64 0, .int .i64 0, .int .i64 0, .int .i64 0, .int .i64 0, .int .i64 0]) ?_ 5 _ rfl; (with_reducible repeat (first | refine blk_drewN ?_ _ | refine blk_drew ?_ | refine blk_alloc ?_ _)); refine blk_put (cs := #[.int .i64 1, .int .i64 0, .int .i64 0, .int .i64 0, .int .i64 0, .int .i64 0, .int .i64 0]) ?_ 4 _ rfl; (with_reducible repeat (first | refine blk_drewN ?_ _ | refine blk_drew ?_ | refine blk_alloc ?_ _)); refine blk_put (cs := #[.int .i64 1, .int .i64 0, .int .i64 0, .int .i64 0, .int .i64 0, .int .i64 0, .int .i64 0]) ?_ 3 _ rfl; (with_reducible repeat (first | refine blk_drewN ?_ _ | refine blk_drew ?_ | refine blk_alloc ?_ _)); refine blk_put (cs := #[.int .i64 1, .int .i64 0, .int .i64 0, .int .i64 0, .int .i64 0, .int .i64 0, .int .i64 0]) ?_ 2 _ rfl; (with_reducible repeat (first | refine blk_drewN ?_ _ | refine blk_drew ?_ | refine blk_alloc ?_ _)); refine blk_put (cs := #[.int .i64 1, .int .i64 0, .int .i64 0, .int .i64 0, .int .i64 0, .int .i64 0, .int .i64 0]) ?_ 1 _ rfl; (with_reducible repeat (first | refine blk_drewN ?_ _ | refine blk_drew ?_ | refine blk_alloc ?_ _)); refine blk_put (cs := #[.int .i64 0, .int .i64 0, .int .i64 0, .int .i64 0, .int .i64 0, .int .i64 0, .int .i64 0]) ?_ 0 _ rfl; (with_reducible repeat (first | refine blk_drewN ?_ _ | refine blk_drew ?_ | refine blk_alloc ?_ _)); exact BK150.out⟩, ⟨by repeat (first | (with_reducible first | exact HB.out | apply below_alloc | apply pw_below_drewN | apply below_drew1 | refine below_set ?_ GE148.out | refine below_set ?_ GE150.out) | exact HB.out)⟩⟩
          case rest =>
            clear HC8
            try clear c1
            try clear p1
            try clear q1
            try clear hx1
            try clear hcv1
            try clear qi1
            try clear c2
            try clear c2b0
            try clear c2b1
            try clear p2
            try clear c5
            try clear c5b0
            try clear c5b1
            try clear c6
            try clear c6b0
            try clear c6b1
            try clear c7
            try clear c7b0
            try clear c7b1
            try clear hcv11
            try clear c13
            try clear c15
            try clear c15b0
            try clear c15b1
            try clear p15
            try clear q15
            try clear hx15
            try clear qi15
            try clear c16
            try clear c16b0
            try clear c17
            try clear c18
            try clear c19
            try clear c19b0
            try clear c20
            try clear c22
            try clear hcz14_0
            try clear hcz14_1
            try clear hcz14_2
            try clear hcz14_3
            try clear hcz14_4
            try clear hcz14_5
            try clear hcz14_6
            try clear hcz18_0
            try clear hcz18_1
            try clear hcz18_2
            try clear hcz18_3
            try clear hcz18_4
            try clear hcz18_5
            try clear hcz18_6
            try clear hcz21_0
            try clear hcz21_1
            try clear hcz21_2
            try clear hcz21_3
            try clear hcz21_4
            try clear hcz21_5
            try clear hcz21_6
            try clear hcz23_0
            try clear hcz23_1
            try clear hcz23_2
            try clear hcz23_3
            try clear hcz23_4
            try clear hcz23_5
            try clear hcz23_6
            try clear hcz4_0
            try clear hcz4_1
            try clear hcz4_2
            try clear hcz4_3
            try clear hcz4_4
            try clear hcz4_5
            try clear hcz4_6
            try clear hfz14_0
            try clear hfz14_1
            try clear hfz14_2
            try clear hfz14_3
            try clear hfz14_4
            try clear hfz14_5
            try clear hfz14_6
            try clear hfz18_0
            try clear hfz18_1
            try clear hfz18_2
            try clear hfz18_3
            try clear hfz18_4
            try clear hfz18_5
            try clear hfz18_6
            try clear hfz21_0
            try clear hfz21_1
            try clear hfz21_2
            try clear hfz21_3
            try clear hfz21_4
            try clear hfz21_5
            try clear hfz21_6
            try clear hfz23_0
            try clear hfz23_1
            try clear hfz23_2
            try clear hfz23_3
            try clear hfz23_4
            try clear hfz23_5
            try clear hfz23_6
            try clear hfz4_0
            try clear hfz4_1
            try clear hfz4_2
            try clear hfz4_3
            try clear hfz4_4
            try clear hfz4_5
            try clear hfz4_6
            try clear hx151_0
            try clear hx152_0
            try clear hx153_0
            try clear hx154_0
            try clear p151
            try clear p152
            try clear p153
            try clear p154
            try clear q151
            try clear q152
            try clear q153
            try clear q154
            obtain ⟨kq, x149000_7, x149001_7, x149002_7, x149003_7, x149004_7, x149005_7, x149006_7, x151000_7, HA, HJ7, BK148, BK150, HB⟩ := hcut
            cases kq with
            | zero => exact absurd HA.out (by simp [longcaseref05_Decode.j0])
            | succ kj7 =>
              have H := HA.out
              clear HA
              simp only [longcaseref05_Decode.j0] at H
              obtain ⟨y155, hy155⟩ : ∃ y_ : List Int, y_ = (([] : List Int)) := ⟨_, rfl⟩
              replace H : (longcaseref05_Decode.l0 kj7 l0 y155 0 x151000_7 0 0 0 0 0 0) = some (r1, r2, r3, r4, r5, r6, r7, r8) := by first | (rw [hy155]; with_reducible exact H) | (have H2_ := (Option.bind_some _ _).symm.trans H; rw [hy155]; with_reducible exact H2_) | (have H2_ := (Option.bind_some _ _).symm.trans H; with_reducible exact H2_) | with_reducible exact H | (rw [hy155]; exact H) | exact H
              have Ny155 := Aside0.mk hy155
              clear hy155
              have H' := Aside0.mk H
              clear H
              go_wp2_with (first | ((with_reducible refine gate_dst (N := 41) rfl ?_); refine Kd.R_lit (Kd.int .i64) _ 3 ?hg (N := 41) ?hd (xs := ([] : List Int)) (inner := []) (ok := fun _ => True) (okp := fun _ => True) ?hr ?hp (fun _ hk => hk) trivial (Below.refl _ _) (Nat.le_refl _) (by simp) ?_; (case hd => rfl); (case hg => rfl); (case hr => first | (go_simp; done) | (go_simp; rfl)); (case hp => exact (Reps.none _ _)); intro v156 w24 ho25 hb hg_ hnew_; clear hg_ hnew_; (first | rw [← Ny155.out] at ho25 | (simp only [Int.reduceToNat] at ho25; rw [← Ny155.out] at ho25)); have n0_ := Aside0.mk (Kd.R_lower ho25 (below_size (by repeat (first | (with_reducible first | exact HB.out | apply below_alloc | apply pw_below_drewN | apply below_drew1 | refine below_set ?_ GE148.out | refine below_set ?_ GE150.out) | exact HB.out)))); have n1_ := Aside0.mk (blk_below (g := gb148) (o := .cells #[.int .i64 x149000_7, .int .i64 x149001_7, .int .i64 x149002_7, .int .i64 x149003_7, .int .i64 x149004_7, .int .i64 x149005_7, .int .i64 x149006_7] 26 (0, 0)) (by (with_reducible repeat (first | refine blk_drewN ?_ _ | refine blk_drew ?_ | refine blk_alloc ?_ _)); exact BK148.out) hb); have n2_ := Aside0.mk (blk_below (g := gb150) (o := .cells #[.int .i64 x151000_7, .int .i64 0, .int .i64 0, .int .i64 0, .int .i64 0, .int .i64 0, .int .i64 0] 26 (0, 0)) (by (with_reducible repeat (first | refine blk_drewN ?_ _ | refine blk_drew ?_ | refine blk_alloc ?_ _)); exact BK150.out) hb); have n3_ := Aside0.mk (below_step (by repeat (first | (with_reducible first | exact HB.out | apply below_alloc | apply pw_below_drewN | apply below_drew1 | refine below_set ?_ GE148.out | refine below_set ?_ GE150.out) | exact HB.out)) hb); clear BK148; clear BK150; clear HB; have HO157 := n0_; have BK148 := n1_; have BK150 := n2_; have HB := n3_; clear n0_ n1_ n2_ n3_; clear hb ho25))
              go_loopg [5, 6] kj7 (fun kq v5 v6 w' => ∃ (x5_2 : List Int) (x6_2 : Int), v6 = .int .i64 x6_2 ∧ Aside0 (longcaseref05_Decode.l0 kq l0 x5_2 x6_2 x151000_7 0 0 0 0 0 0 = some (r1, r2, r3, r4, r5, r6, r7, r8)) ∧ Aside0 (kq ≤ kj7) ∧ Aside0 (Kd.R (Kd.int .i64) 3 w' w.heap.size (fun _ => True) v5 x5_2) ∧ Aside0 (w'.heap[gb148]? = some (.cells #[.int .i64 x149000_7, .int .i64 x149001_7, .int .i64 x149002_7, .int .i64 x149003_7, .int .i64 x149004_7, .int .i64 x149005_7, .int .i64 x149006_7] 26 (0, 0))) ∧ Aside0 (w'.heap[gb150]? = some (.cells #[.int .i64 x151000_7, .int .i64 0, .int .i64 0, .int .i64 0, .int .i64 0, .int .i64 0, .int .i64 0] 26 (0, 0))) ∧ Aside0 (Below w.heap.size w w'))
              case atStart => exact ⟨(y155), (0), (by first | rfl | (simp; done) | (simp [*]; done)), H', ⟨Nat.le_refl _⟩, ⟨by (with_reducible repeat (first | apply Kd.R_alloc | apply Kd.R_drewN | apply Kd.R_drew)); exact HO157.out⟩, ⟨by (with_reducible repeat (first | refine blk_drewN ?_ _ | refine blk_drew ?_ | refine blk_alloc ?_ _)); exact BK148.out⟩, ⟨by (with_reducible repeat (first | refine blk_drewN ?_ _ | refine blk_drew ?_ | refine blk_alloc ?_ _)); exact BK150.out⟩, ⟨by repeat (first | (with_reducible first | exact HB.out | apply below_alloc | apply pw_below_drewN | apply below_drew1 | refine below_set ?_ GE148.out | refine below_set ?_ GE150.out) | exact HB.out)⟩⟩
              case round =>
                clear H'
                try clear c1
                try clear p1
                try clear q1
                try clear hx1
                try clear hcv1
                try clear qi1
                try clear c2
                try clear c2b0
                try clear c2b1
                try clear p2
                try clear c5
                try clear c5b0
                try clear c5b1
                try clear c6
                try clear c6b0
                try clear c6b1
                try clear c7
                try clear c7b0
                try clear c7b1
                try clear hcv11
                try clear c13
                try clear c15
                try clear c15b0
                try clear c15b1
                try clear p15
                try clear q15
                try clear hx15
                try clear qi15
                try clear c16
                try clear c16b0
                try clear c17
                try clear c18
                try clear c19
                try clear c19b0
                try clear c20
                try clear c22
                try clear hcz14_0
                try clear hcz14_1
                try clear hcz14_2
                try clear hcz14_3
                try clear hcz14_4
                try clear hcz14_5
                try clear hcz14_6
                try clear hcz18_0
                try clear hcz18_1
                try clear hcz18_2
                try clear hcz18_3
                try clear hcz18_4
                try clear hcz18_5
                try clear hcz18_6
                try clear hcz21_0
                try clear hcz21_1
                try clear hcz21_2
                try clear hcz21_3
                try clear hcz21_4
                try clear hcz21_5
                try clear hcz21_6
                try clear hcz23_0
                try clear hcz23_1
                try clear hcz23_2
                try clear hcz23_3
                try clear hcz23_4
                try clear hcz23_5
                try clear hcz23_6
                try clear hcz4_0
                try clear hcz4_1
                try clear hcz4_2
                try clear hcz4_3
                try clear hcz4_4
                try clear hcz4_5
                try clear hcz4_6
                try clear hfz14_0
                try clear hfz14_1
                try clear hfz14_2
                try clear hfz14_3
                try clear hfz14_4
                try clear hfz14_5
                try clear hfz14_6
                try clear hfz18_0
                try clear hfz18_1
                try clear hfz18_2
                try clear hfz18_3
                try clear hfz18_4
                try clear hfz18_5
                try clear hfz18_6
                try clear hfz21_0
                try clear hfz21_1
                try clear hfz21_2
                try clear hfz21_3
                try clear hfz21_4
                try clear hfz21_5
                try clear hfz21_6
                try clear hfz23_0
                try clear hfz23_1
                try clear hfz23_2
                try clear hfz23_3
                try clear hfz23_4
                try clear hfz23_5
                try clear hfz23_6
                try clear hfz4_0
                try clear hfz4_1
                try clear hfz4_2
                try clear hfz4_3
                try clear hfz4_4
                try clear hfz4_5
                try clear hfz4_6
                try clear hx151_0
                try clear hx152_0
                try clear hx153_0
                try clear hx154_0
                try clear p1
                try clear p15
                try clear p151
                try clear p152
                try clear p153
                try clear p154
                try clear p2
                try clear q1
                try clear q15
                try clear q151
                try clear q152
                try clear q153
                try clear q154
                obtain ⟨x5_2, x6_2, rfl, HA, HK2, HO_5, BK148, BK150, HB⟩ := hrel
                cases gk with
                | zero => exact absurd HA.out (by simp [longcaseref05_Decode.l0])
                | succ k2 =>
                  have H := HA.out
                  clear HA
                  simp only [longcaseref05_Decode.l0] at H
                  by_cases c26 : x6_2 < 6
                  · rw [if_pos c26] at H
                    have c26b0 : decide (x6_2 < 6) = true := decide_eq_true c26
                    clear c26
                    replace H := Option.bind_eq_some_iff.mp H
                    obtain ⟨⟨t158, t159⟩, A270, H⟩ := H
                    replace H : (if x5_2.length < 17592186044416 then (longcaseref05_Decode.l0 k2 l0 (x5_2 ++ [wrap64 (t158)]) (wrap64 (x6_2 + 1)) x151000_7 0 0 0 0 0 0) else (none)) = some (r1, r2, r3, r4, r5, r6, r7, r8) := H
                    have A27 := Aside0.mk A270
                    clear A270
                    by_cases c28 : x5_2.length < 17592186044416
                    · rw [if_pos c28] at H
                      have LMc28 := Aside0.mk c28
                      clear c28
                      obtain ⟨y160, hy160⟩ : ∃ y_ : List Int, y_ = (x5_2 ++ [wrap64 (t158)]) := ⟨_, rfl⟩
                      replace H : (longcaseref05_Decode.l0 k2 l0 y160 (wrap64 (x6_2 + 1)) x151000_7 0 0 0 0 0 0) = some (r1, r2, r3, r4, r5, r6, r7, r8) := by first | (rw [hy160]; with_reducible exact H) | (have H2_ := (Option.bind_some _ _).symm.trans H; rw [hy160]; with_reducible exact H2_) | (have H2_ := (Option.bind_some _ _).symm.trans H; with_reducible exact H2_) | with_reducible exact H | (rw [hy160]; exact H) | exact H
                      have Ny160 := Aside0.mk hy160
                      clear hy160
                      have H' := Aside0.mk H
                      clear H
                      go_wp2_with (first | ((with_reducible refine gate_callee (f := 25) rfl ?_); refine goesL_ (some 51) rfl rfl Try.func25 (by kernel_rfl) rfl #[.slice (some ad151) l0.length c0, .int .i64 (wrap64 (20 + (wrap64 (4 * x6_2)))), .int .i64 4] rfl (by (try simp only [List.map_toArray, List.map_cons, List.map_nil]); first | done | rfl | (simp only [List.length_drop, List.length_take]; rfl)) ?_; (with_reducible refine (longcaseref04_Uint.calls k2 _ _ l0 (wrap64 (20 + (wrap64 (4 * x6_2)))) 4 t158 t159 _ ?side1 ?side2 A27.out).mono ?_); (case side1 => repeat (first | exact (Kd.C_below HR0.out HB.out) | (with_reducible refine Kd.C_alloc ?_ _) | (with_reducible refine Kd.C_drewN ?_ _) | (with_reducible refine Kd.C_drew ?_))); (case side2 => exact HC0.out); rintro e w' ⟨rfl, ⟨nd, rfl⟩⟩; refine ⟨_, rfl, ?_⟩) | ((with_reducible refine gate_builtin (b := .append) (xs := #[.tmp 54, .tmp 57]) rfl ?_); at_builtin; refine Kd.R_append (Kd.int .i64) (w0 := w) w.heap.size rfl (.tmp 54) (.tmp 57) 43 3 (.int .i64 0) 8 rfl Try.underlying43 info3 rfl (by decide) (by omega) u5 x5_2 (wrap64 (t158)) [.int .i64 (wrap64 (t158))] (fun _ => True) (fun _ => False) rfl rfl ?aP (fun _ hk => hk.elim) ?aF ?aO ?aB ?aS ?aL ?_; (case aP => exact rfl); (case aB => exact (by repeat (first | (with_reducible first | exact HB.out | apply below_alloc | apply pw_below_drewN | apply below_drew1 | refine below_set ?_ GE148.out | refine below_set ?_ GE150.out) | exact HB.out))); (case aF => exact (fun _ _ => trivial)); (case aO => exact (by (with_reducible repeat (first | apply Kd.R_alloc | apply Kd.R_drewN | apply Kd.R_drew)); exact HO_5.out)); (case aS => exact (below_size (by repeat (first | (with_reducible first | exact HB.out | apply below_alloc | apply pw_below_drewN | apply below_drew1 | refine below_set ?_ GE148.out | refine below_set ?_ GE150.out) | exact HB.out)))); (case aL => have := LMc28.out; omega); intro v161 w29 ho hb hg hat; rw [← Ny160.out] at ho; have n0_ := Aside0.mk (blk_grown (g := gb148) (o := .cells #[.int .i64 x149000_7, .int .i64 x149001_7, .int .i64 x149002_7, .int .i64 x149003_7, .int .i64 x149004_7, .int .i64 x149005_7, .int .i64 x149006_7] 26 (0, 0)) (by (with_reducible repeat (first | refine blk_drewN ?_ _ | refine blk_drew ?_ | refine blk_alloc ?_ _)); exact BK148.out) hg (Kd.R_ne HO_5.out BK148.out (by decide))); have n1_ := Aside0.mk (blk_grown (g := gb150) (o := .cells #[.int .i64 x151000_7, .int .i64 0, .int .i64 0, .int .i64 0, .int .i64 0, .int .i64 0, .int .i64 0] 26 (0, 0)) (by (with_reducible repeat (first | refine blk_drewN ?_ _ | refine blk_drew ?_ | refine blk_alloc ?_ _)); exact BK150.out) hg (Kd.R_ne HO_5.out BK150.out (by decide))); have n2_ := Aside0.mk (hb); have n3_ := Aside0.mk (ho); clear BK148; clear BK150; clear HB; clear HO_5; have BK148 := n0_; have BK150 := n1_; have HB := n2_; have HO162 := n3_; clear n0_ n1_ n2_ n3_; clear ho hb hg hat))
                      go_roundg k2
                      case measure => have := HJ7.out; have := HK2.out; omega
                      case rel => exact ⟨(y160), (wrap64 (x6_2 + 1)), (by first | rfl | (simp; done) | (simp [*]; done)), H', ⟨by have := HJ7.out; have := HK2.out; omega⟩, ⟨by (with_reducible repeat (first | apply Kd.R_alloc | apply Kd.R_drewN | apply Kd.R_drew)); exact HO162.out⟩, ⟨by (with_reducible repeat (first | refine blk_drewN ?_ _ | refine blk_drew ?_ | refine blk_alloc ?_ _)); exact BK148.out⟩, ⟨by (with_reducible repeat (first | refine blk_drewN ?_ _ | refine blk_drew ?_ | refine blk_alloc ?_ _)); exact BK150.out⟩, ⟨by repeat (first | (with_reducible first | exact HB.out | apply below_alloc | apply pw_below_drewN | apply below_drew1 | refine below_set ?_ GE148.out | refine below_set ?_ GE150.out) | exact HB.out)⟩⟩
                    · rw [if_neg c28] at H
                      exact absurd H (by simp)
                  · rw [if_neg c26] at H
                    have c26b0 : decide (x6_2 < 6) = false := decide_eq_false c26
                    clear c26
                    by_cases c30 : 0 < (x5_2.length : Int)
                    · rw [if_pos c30] at H
                      have c30b0 : decide (0 < (x5_2.length : Int)) = true := decide_eq_true c30
                      have c30b1 : decide (0 < x5_2.length) = true := decide_eq_true (by omega)
                      clear c30
                      by_cases c31 : 1 < (x5_2.length : Int)
                      · rw [if_pos c31] at H
                        have c31b0 : decide (1 < (x5_2.length : Int)) = true := decide_eq_true c31
                        have c31b1 : decide (1 < x5_2.length) = true := decide_eq_true (by omega)
                        clear c31
                        by_cases c32 : 2 < (x5_2.length : Int)
                        · rw [if_pos c32] at H
                          have c32b0 : decide (2 < (x5_2.length : Int)) = true := decide_eq_true c32
                          have c32b1 : decide (2 < x5_2.length) = true := decide_eq_true (by omega)
                          clear c32
                          by_cases c33 : 3 < (x5_2.length : Int)
                          · rw [if_pos c33] at H
                            have c33b0 : decide (3 < (x5_2.length : Int)) = true := decide_eq_true c33
                            have c33b1 : decide (3 < x5_2.length) = true := decide_eq_true (by omega)
                            clear c33
                            by_cases c34 : 4 < (x5_2.length : Int)
                            · rw [if_pos c34] at H
                              have c34b0 : decide (4 < (x5_2.length : Int)) = true := decide_eq_true c34
                              have c34b1 : decide (4 < x5_2.length) = true := decide_eq_true (by omega)
                              clear c34
                              by_cases c35 : 5 < (x5_2.length : Int)
                              · rw [if_pos c35] at H
                                have c35b0 : decide (5 < (x5_2.length : Int)) = true := decide_eq_true c35
                                have c35b1 : decide (5 < x5_2.length) = true := decide_eq_true (by omega)
                                clear c35
                                replace H := Option.bind_eq_some_iff.mp H
                                obtain ⟨t169, A360, H⟩ := H
                                replace H : (if t169 = true then (some (x151000_7, rd x5_2 0, rd x5_2 1, rd x5_2 2, rd x5_2 3, rd x5_2 4, rd x5_2 5, 0)) else (some (0, 0, 0, 0, 0, 0, 0, 4))) = some (r1, r2, r3, r4, r5, r6, r7, r8) := H
                                have A36 := Aside0.mk A360
                                clear A360
                                by_cases c37 : t169 = true
                                · subst c37
                                  have H1 : (some (x151000_7, rd x5_2 0, rd x5_2 1, rd x5_2 2, rd x5_2 3, rd x5_2 4, rd x5_2 5, 0)) = some (r1, r2, r3, r4, r5, r6, r7, r8) := by rw [if_pos rfl] at H; exact H
                                  clear H
                                  have H := H1
                                  clear H1
                                  simp only [Option.some.injEq, Prod.mk.injEq] at H
                                  obtain ⟨rfl, rfl, rfl, rfl, rfl, rfl, rfl, rfl⟩ := H
                                  obtain ⟨Ao38, co38, eo38⟩ := Kd.R_slice HO_5.out
                                  subst eo38
                                  have p163 : 0 ≤ (0 : Int) := (by omega)
                                  have q163 : 0 < (x5_2.length : Int) := of_decide_eq_true (by first | (with_reducible assumption) | assumption)
                                  obtain ⟨ad163, e163, hx163_0⟩ := Kd.at_int (Kd.R_reads' HO_5.out).2.2 0 p163 q163
                                  cases e163
                                  have qi163 : (0 < x5_2.length) = True := eq_true (by omega)
                                  (try rw [show ((0 : Int)).toNat = 0 from rfl] at hx163_0)
                                  (try rw [Addr.add_zero'] at hx163_0)
                                  replace p163 := eq_true p163
                                  replace q163 := eq_true q163
                                  have hnb39 := NB150_148.out
                                  have hnc39 := NB148_150.out
                                  have hcz40_0 : wr.cell? ⟨gb150, 0, none⟩ = some (.int .i64 x151000_7) := (blk_cell BK150.out 0).trans rfl
                                  have hcz40_1 : wr.cell? ⟨gb150, 1, none⟩ = some (.int .i64 0) := (blk_cell BK150.out 1).trans rfl
                                  have hcz40_2 : wr.cell? ⟨gb150, 2, none⟩ = some (.int .i64 0) := (blk_cell BK150.out 2).trans rfl
                                  have hcz40_3 : wr.cell? ⟨gb150, 3, none⟩ = some (.int .i64 0) := (blk_cell BK150.out 3).trans rfl
                                  have hcz40_4 : wr.cell? ⟨gb150, 4, none⟩ = some (.int .i64 0) := (blk_cell BK150.out 4).trans rfl
                                  have hcz40_5 : wr.cell? ⟨gb150, 5, none⟩ = some (.int .i64 0) := (blk_cell BK150.out 5).trans rfl
                                  have hcz40_6 : wr.cell? ⟨gb150, 6, none⟩ = some (.int .i64 0) := (blk_cell BK150.out 6).trans rfl
                                  have hfz40_0 := blk_frozen BK150.out 0
                                  have hfz40_1 := blk_frozen BK150.out 1
                                  have hfz40_2 := blk_frozen BK150.out 2
                                  have hfz40_3 := blk_frozen BK150.out 3
                                  have hfz40_4 := blk_frozen BK150.out 4
                                  have hfz40_5 := blk_frozen BK150.out 5
                                  have hfz40_6 := blk_frozen BK150.out 6
                                  have p164 : 0 ≤ (1 : Int) := (by omega)
                                  have q164 : 1 < (x5_2.length : Int) := of_decide_eq_true (by first | (with_reducible assumption) | assumption)
                                  obtain ⟨ad164, e164, hx164_0⟩ := Kd.at_int (Kd.R_reads' HO_5.out).2.2 1 p164 q164
                                  obtain rfl : ad163 = ad164 := (by injection e164)
                                  (try simp only [show (1 : Int).toNat = 1 from rfl, Nat.reduceMul, Nat.reduceEqDiff, Go.Addr.add, ↓reduceIte] at hx164_0)
                                  have qi164 : (1 < x5_2.length) = True := eq_true (by omega)
                                  (try rw [show ((1 : Int)).toNat = 1 from rfl] at hx164_0)
                                  have hn164_0 : ad163.block ≠ gb150 := Kd.own_blk (Kd.R_ne HO_5.out BK150.out (by decide))
                                  replace hx164_0 := (cell_far (p := ⟨gb150, 1, none⟩) (by first | (rw [add_block]; exact hn164_0) | (show (Addr.add _ _).block ≠ _; rw [add_block]; exact hn164_0) | exact hn164_0) (.int .i64 (rd x5_2 0))).trans hx164_0
                                  clear hn164_0
                                  replace p164 := eq_true p164
                                  replace q164 := eq_true q164
                                  have p165 : 0 ≤ (2 : Int) := (by omega)
                                  have q165 : 2 < (x5_2.length : Int) := of_decide_eq_true (by first | (with_reducible assumption) | assumption)
                                  obtain ⟨ad165, e165, hx165_0⟩ := Kd.at_int (Kd.R_reads' HO_5.out).2.2 2 p165 q165
                                  obtain rfl : ad163 = ad165 := (by injection e165)
                                  (try simp only [show (2 : Int).toNat = 2 from rfl, Nat.reduceMul, Nat.reduceEqDiff, Go.Addr.add, ↓reduceIte] at hx165_0)
                                  have qi165 : (2 < x5_2.length) = True := eq_true (by omega)
                                  (try rw [show ((2 : Int)).toNat = 2 from rfl] at hx165_0)
                                  have hn165_0 : ad163.block ≠ gb150 := Kd.own_blk (Kd.R_ne HO_5.out BK150.out (by decide))
                                  have hn165_1 : ad163.block ≠ gb150 := Kd.own_blk (Kd.R_ne HO_5.out BK150.out (by decide))
                                  replace hx165_0 := (cell_far (p := ⟨gb150, 1, none⟩) (by first | (rw [add_block]; exact hn165_0) | (show (Addr.add _ _).block ≠ _; rw [add_block]; exact hn165_0) | exact hn165_0) (.int .i64 (rd x5_2 0))).trans hx165_0
                                  replace hx165_0 := (cell_far (p := ⟨gb150, 2, none⟩) (by first | (rw [add_block]; exact hn165_1) | (show (Addr.add _ _).block ≠ _; rw [add_block]; exact hn165_1) | exact hn165_1) (.int .i64 (rd x5_2 1))).trans hx165_0
                                  clear hn165_0
                                  clear hn165_1
                                  replace p165 := eq_true p165
                                  replace q165 := eq_true q165
                                  have p166 : 0 ≤ (3 : Int) := (by omega)
                                  have q166 : 3 < (x5_2.length : Int) := of_decide_eq_true (by first | (with_reducible assumption) | assumption)
                                  obtain ⟨ad166, e166, hx166_0⟩ := Kd.at_int (Kd.R_reads' HO_5.out).2.2 3 p166 q166
                                  obtain rfl : ad163 = ad166 := (by injection e166)
                                  (try simp only [show (3 : Int).toNat = 3 from rfl, Nat.reduceMul, Nat.reduceEqDiff, Go.Addr.add, ↓reduceIte] at hx166_0)
                                  have qi166 : (3 < x5_2.length) = True := eq_true (by omega)
                                  (try rw [show ((3 : Int)).toNat = 3 from rfl] at hx166_0)
                                  have hn166_0 : ad163.block ≠ gb150 := Kd.own_blk (Kd.R_ne HO_5.out BK150.out (by decide))
                                  have hn166_1 : ad163.block ≠ gb150 := Kd.own_blk (Kd.R_ne HO_5.out BK150.out (by decide))
                                  have hn166_2 : ad163.block ≠ gb150 := Kd.own_blk (Kd.R_ne HO_5.out BK150.out (by decide))
                                  replace hx166_0 := (cell_far (p := ⟨gb150, 1, none⟩) (by first | (rw [add_block]; exact hn166_0) | (show (Addr.add _ _).block ≠ _; rw [add_block]; exact hn166_0) | exact hn166_0) (.int .i64 (rd x5_2 0))).trans hx166_0
                                  replace hx166_0 := (cell_far (p := ⟨gb150, 2, none⟩) (by first | (rw [add_block]; exact hn166_1) | (show (Addr.add _ _).block ≠ _; rw [add_block]; exact hn166_1) | exact hn166_1) (.int .i64 (rd x5_2 1))).trans hx166_0
                                  replace hx166_0 := (cell_far (p := ⟨gb150, 3, none⟩) (by first | (rw [add_block]; exact hn166_2) | (show (Addr.add _ _).block ≠ _; rw [add_block]; exact hn166_2) | exact hn166_2) (.int .i64 (rd x5_2 2))).trans hx166_0
                                  clear hn166_0
                                  clear hn166_1
                                  clear hn166_2
                                  replace p166 := eq_true p166
                                  replace q166 := eq_true q166
                                  have p167 : 0 ≤ (4 : Int) := (by omega)
                                  have q167 : 4 < (x5_2.length : Int) := of_decide_eq_true (by first | (with_reducible assumption) | assumption)
                                  obtain ⟨ad167, e167, hx167_0⟩ := Kd.at_int (Kd.R_reads' HO_5.out).2.2 4 p167 q167
                                  obtain rfl : ad163 = ad167 := (by injection e167)
                                  (try simp only [show (4 : Int).toNat = 4 from rfl, Nat.reduceMul, Nat.reduceEqDiff, Go.Addr.add, ↓reduceIte] at hx167_0)
                                  have qi167 : (4 < x5_2.length) = True := eq_true (by omega)
                                  (try rw [show ((4 : Int)).toNat = 4 from rfl] at hx167_0)
                                  have hn167_0 : ad163.block ≠ gb150 := Kd.own_blk (Kd.R_ne HO_5.out BK150.out (by decide))
                                  have hn167_1 : ad163.block ≠ gb150 := Kd.own_blk (Kd.R_ne HO_5.out BK150.out (by decide))
                                  have hn167_2 : ad163.block ≠ gb150 := Kd.own_blk (Kd.R_ne HO_5.out BK150.out (by decide))
                                  have hn167_3 : ad163.block ≠ gb150 := Kd.own_blk (Kd.R_ne HO_5.out BK150.out (by decide))
                                  replace hx167_0 := (cell_far (p := ⟨gb150, 1, none⟩) (by first | (rw [add_block]; exact hn167_0) | (show (Addr.add _ _).block ≠ _; rw [add_block]; exact hn167_0) | exact hn167_0) (.int .i64 (rd x5_2 0))).trans hx167_0
                                  replace hx167_0 := (cell_far (p := ⟨gb150, 2, none⟩) (by first | (rw [add_block]; exact hn167_1) | (show (Addr.add _ _).block ≠ _; rw [add_block]; exact hn167_1) | exact hn167_1) (.int .i64 (rd x5_2 1))).trans hx167_0
                                  replace hx167_0 := (cell_far (p := ⟨gb150, 3, none⟩) (by first | (rw [add_block]; exact hn167_2) | (show (Addr.add _ _).block ≠ _; rw [add_block]; exact hn167_2) | exact hn167_2) (.int .i64 (rd x5_2 2))).trans hx167_0
                                  replace hx167_0 := (cell_far (p := ⟨gb150, 4, none⟩) (by first | (rw [add_block]; exact hn167_3) | (show (Addr.add _ _).block ≠ _; rw [add_block]; exact hn167_3) | exact hn167_3) (.int .i64 (rd x5_2 3))).trans hx167_0
                                  clear hn167_0
                                  clear hn167_1
                                  clear hn167_2
                                  clear hn167_3
                                  replace p167 := eq_true p167
                                  replace q167 := eq_true q167
                                  have p168 : 0 ≤ (5 : Int) := (by omega)
                                  have q168 : 5 < (x5_2.length : Int) := of_decide_eq_true (by first | (with_reducible assumption) | assumption)
                                  obtain ⟨ad168, e168, hx168_0⟩ := Kd.at_int (Kd.R_reads' HO_5.out).2.2 5 p168 q168
                                  obtain rfl : ad163 = ad168 := (by injection e168)
                                  (try simp only [show (5 : Int).toNat = 5 from rfl, Nat.reduceMul, Nat.reduceEqDiff, Go.Addr.add, ↓reduceIte] at hx168_0)
                                  have qi168 : (5 < x5_2.length) = True := eq_true (by omega)
                                  (try rw [show ((5 : Int)).toNat = 5 from rfl] at hx168_0)
                                  have hn168_0 : ad163.block ≠ gb150 := Kd.own_blk (Kd.R_ne HO_5.out BK150.out (by decide))
                                  have hn168_1 : ad163.block ≠ gb150 := Kd.own_blk (Kd.R_ne HO_5.out BK150.out (by decide))
                                  have hn168_2 : ad163.block ≠ gb150 := Kd.own_blk (Kd.R_ne HO_5.out BK150.out (by decide))
                                  have hn168_3 : ad163.block ≠ gb150 := Kd.own_blk (Kd.R_ne HO_5.out BK150.out (by decide))
                                  have hn168_4 : ad163.block ≠ gb150 := Kd.own_blk (Kd.R_ne HO_5.out BK150.out (by decide))
                                  replace hx168_0 := (cell_far (p := ⟨gb150, 1, none⟩) (by first | (rw [add_block]; exact hn168_0) | (show (Addr.add _ _).block ≠ _; rw [add_block]; exact hn168_0) | exact hn168_0) (.int .i64 (rd x5_2 0))).trans hx168_0
                                  replace hx168_0 := (cell_far (p := ⟨gb150, 2, none⟩) (by first | (rw [add_block]; exact hn168_1) | (show (Addr.add _ _).block ≠ _; rw [add_block]; exact hn168_1) | exact hn168_1) (.int .i64 (rd x5_2 1))).trans hx168_0
                                  replace hx168_0 := (cell_far (p := ⟨gb150, 3, none⟩) (by first | (rw [add_block]; exact hn168_2) | (show (Addr.add _ _).block ≠ _; rw [add_block]; exact hn168_2) | exact hn168_2) (.int .i64 (rd x5_2 2))).trans hx168_0
                                  replace hx168_0 := (cell_far (p := ⟨gb150, 4, none⟩) (by first | (rw [add_block]; exact hn168_3) | (show (Addr.add _ _).block ≠ _; rw [add_block]; exact hn168_3) | exact hn168_3) (.int .i64 (rd x5_2 3))).trans hx168_0
                                  replace hx168_0 := (cell_far (p := ⟨gb150, 5, none⟩) (by first | (rw [add_block]; exact hn168_4) | (show (Addr.add _ _).block ≠ _; rw [add_block]; exact hn168_4) | exact hn168_4) (.int .i64 (rd x5_2 4))).trans hx168_0
                                  clear hn168_0
                                  clear hn168_1
                                  clear hn168_2
                                  clear hn168_3
                                  clear hn168_4
                                  replace p168 := eq_true p168
                                  replace q168 := eq_true q168
                                  go_wp2_with (first | ((with_reducible refine gate_callee (f := 10) rfl ?_); refine goesL_ (some 84) rfl rfl Try.func10 (by kernel_rfl) rfl #[.agg #[.int .i64 x151000_7, .int .i64 (rd x5_2 0), .int .i64 (rd x5_2 1), .int .i64 (rd x5_2 2), .int .i64 (rd x5_2 3), .int .i64 (rd x5_2 4), .int .i64 (rd x5_2 5)]] rfl (by (try simp only [List.map_toArray, List.map_cons, List.map_nil]); first | done | rfl | (simp only [List.length_drop, List.length_take]; rfl)) ?_; (with_reducible refine (longcaseref05_Right.calls k2 x151000_7 (rd x5_2 0) (rd x5_2 1) (rd x5_2 2) (rd x5_2 3) (rd x5_2 4) (rd x5_2 5) true _ A36.out).mono ?_); rintro e w41 ⟨rfl, hb⟩; refine ⟨_, rfl, ?_⟩; have n0_ := Aside0.mk (Kd.R_below (by (with_reducible repeat (first | apply Kd.R_alloc | apply Kd.R_drewN | apply Kd.R_drew)); exact (Kd.R_mono (Kd.R_far (p := ⟨gb150, 6, none⟩) (Kd.R_far (p := ⟨gb150, 5, none⟩) (Kd.R_far (p := ⟨gb150, 4, none⟩) (Kd.R_far (p := ⟨gb150, 3, none⟩) (Kd.R_far (p := ⟨gb150, 2, none⟩) (Kd.R_far (p := ⟨gb150, 1, none⟩) (Kd.R_types HO_5.out BK150.out (by decide)) (fun _ hk => hk.2) (.int .i64 (rd x5_2 0))) (fun _ hk => hk.2) (.int .i64 (rd x5_2 1))) (fun _ hk => hk.2) (.int .i64 (rd x5_2 2))) (fun _ hk => hk.2) (.int .i64 (rd x5_2 3))) (fun _ hk => hk.2) (.int .i64 (rd x5_2 4))) (fun _ hk => hk.2) (.int .i64 (rd x5_2 5))) (fun _ h_ => h_.1))) hb); have n1_ := Aside0.mk (blk_below (g := gb148) (o := .cells #[.int .i64 x149000_7, .int .i64 x149001_7, .int .i64 x149002_7, .int .i64 x149003_7, .int .i64 x149004_7, .int .i64 x149005_7, .int .i64 x149006_7] 26 (0, 0)) (by (with_reducible repeat (first | refine blk_drewN ?_ _ | refine blk_drew ?_ | refine blk_alloc ?_ _)); refine blk_far ?_ NB148_150.out _; (with_reducible repeat (first | refine blk_drewN ?_ _ | refine blk_drew ?_ | refine blk_alloc ?_ _)); refine blk_far ?_ NB148_150.out _; (with_reducible repeat (first | refine blk_drewN ?_ _ | refine blk_drew ?_ | refine blk_alloc ?_ _)); refine blk_far ?_ NB148_150.out _; (with_reducible repeat (first | refine blk_drewN ?_ _ | refine blk_drew ?_ | refine blk_alloc ?_ _)); refine blk_far ?_ NB148_150.out _; (with_reducible repeat (first | refine blk_drewN ?_ _ | refine blk_drew ?_ | refine blk_alloc ?_ _)); refine blk_far ?_ NB148_150.out _; (with_reducible repeat (first | refine blk_drewN ?_ _ | refine blk_drew ?_ | refine blk_alloc ?_ _)); refine blk_far ?_ NB148_150.out _; (with_reducible repeat (first | refine blk_drewN ?_ _ | refine blk_drew ?_ | refine blk_alloc ?_ _)); exact BK148.out) hb); have n2_ := Aside0.mk (blk_below (g := gb150) (o := .cells #[.int .i64 x151000_7, .int .i64 (rd x5_2 0), .int .i64 (rd x5_2 1), .int .i64 (rd x5_2 2), .int .i64 (rd x5_2 3), .int .i64 (rd x5_2 4), .int .i64 (rd x5_2 5)] 26 (0, 0)) (by (with_reducible repeat (first | refine blk_drewN ?_ _ | refine blk_drew ?_ | refine blk_alloc ?_ _)); refine blk_put (cs := #[.int .i64 x151000_7, .int .i64 (rd x5_2 0), .int .i64 (rd x5_2 1), .int .i64 (rd x5_2 2), .int .i64 (rd x5_2 3), .int .i64 (rd x5_2 4), .int .i64 0]) ?_ 6 _ rfl; (with_reducible repeat (first | refine blk_drewN ?_ _ | refine blk_drew ?_ | refine blk_alloc ?_ _)); refine blk_put (cs := #[.int .i64 x151000_7, .int .i64 (rd x5_2 0), .int .i64 (rd x5_2 1), .int .i64 (rd x5_2 2), .int .i64 (rd x5_2 3), .int .i64 0, .int .i64 0]) ?_ 5 _ rfl; (with_reducible repeat (first | refine blk_drewN ?_ _ | refine blk_drew ?_ | refine blk_alloc ?_ _)); refine blk_put (cs := #[.int .i64 x151000_7, .int .i64 (rd x5_2 0), .int .i64 (rd x5_2 1), .int .i64 (rd x5_2 2), .int .i64 0, .int .i64 0, .int .i64 0]) ?_ 4 _ rfl; (with_reducible repeat (first | refine blk_drewN ?_ _ | refine blk_drew ?_ | refine blk_alloc ?_ _)); refine blk_put (cs := #[.int .i64 x151000_7, .int .i64 (rd x5_2 0), .int .i64 (rd x5_2 1), .int .i64 0, .int .i64 0, .int .i64 0, .int .i64 0]) ?_ 3 _ rfl; (with_reducible repeat (first | refine blk_drewN ?_ _ | refine blk_drew ?_ | refine blk_alloc ?_ _)); refine blk_put (cs := #[.int .i64 x151000_7, .int .i64 (rd x5_2 0), .int .i64 0, .int .i64 0, .int .i64 0, .int .i64 0, .int .i64 0]) ?_ 2 _ rfl; (with_reducible repeat (first | refine blk_drewN ?_ _ | refine blk_drew ?_ | refine blk_alloc ?_ _)); refine blk_put (cs := #[.int .i64 x151000_7, .int .i64 0, .int .i64 0, .int .i64 0, .int .i64 0, .int .i64 0, .int .i64 0]) ?_ 1 _ rfl; (with_reducible repeat (first | refine blk_drewN ?_ _ | refine blk_drew ?_ | refine blk_alloc ?_ _)); exact BK150.out) hb); have n3_ := Aside0.mk (below_step (by repeat (first | (with_reducible first | exact HB.out | apply below_alloc | apply pw_below_drewN | apply below_drew1 | refine below_set ?_ GE148.out | refine below_set ?_ GE150.out) | exact HB.out)) hb); clear HO_5; clear BK148; clear BK150; clear HB; have HO_5 := n0_; have BK148 := n1_; have BK150 := n2_; have HB := n3_; clear n0_ n1_ n2_ n3_; (try clear hb); (try clear hb2); (try clear hk); (try clear hi); have hcz42_0 : w41.cell? ⟨gb150, 0, none⟩ = some (.int .i64 x151000_7) := (blk_cell BK150.out 0).trans rfl; have hcz42_1 : w41.cell? ⟨gb150, 1, none⟩ = some (.int .i64 (rd x5_2 0)) := (blk_cell BK150.out 1).trans rfl; have hcz42_2 : w41.cell? ⟨gb150, 2, none⟩ = some (.int .i64 (rd x5_2 1)) := (blk_cell BK150.out 2).trans rfl; have hcz42_3 : w41.cell? ⟨gb150, 3, none⟩ = some (.int .i64 (rd x5_2 2)) := (blk_cell BK150.out 3).trans rfl; have hcz42_4 : w41.cell? ⟨gb150, 4, none⟩ = some (.int .i64 (rd x5_2 3)) := (blk_cell BK150.out 4).trans rfl; have hcz42_5 : w41.cell? ⟨gb150, 5, none⟩ = some (.int .i64 (rd x5_2 4)) := (blk_cell BK150.out 5).trans rfl; have hcz42_6 : w41.cell? ⟨gb150, 6, none⟩ = some (.int .i64 (rd x5_2 5)) := (blk_cell BK150.out 6).trans rfl; have hfz42_0 := blk_frozen BK150.out 0; have hfz42_1 := blk_frozen BK150.out 1; have hfz42_2 := blk_frozen BK150.out 2; have hfz42_3 := blk_frozen BK150.out 3; have hfz42_4 := blk_frozen BK150.out 4; have hfz42_5 := blk_frozen BK150.out 5; have hfz42_6 := blk_frozen BK150.out 6; have hcz43_0 : w41.cell? ⟨gb148, 0, none⟩ = some (.int .i64 x149000_7) := (blk_cell BK148.out 0).trans rfl; have hcz43_1 : w41.cell? ⟨gb148, 1, none⟩ = some (.int .i64 x149001_7) := (blk_cell BK148.out 1).trans rfl; have hcz43_2 : w41.cell? ⟨gb148, 2, none⟩ = some (.int .i64 x149002_7) := (blk_cell BK148.out 2).trans rfl; have hcz43_3 : w41.cell? ⟨gb148, 3, none⟩ = some (.int .i64 x149003_7) := (blk_cell BK148.out 3).trans rfl; have hcz43_4 : w41.cell? ⟨gb148, 4, none⟩ = some (.int .i64 x149004_7) := (blk_cell BK148.out 4).trans rfl; have hcz43_5 : w41.cell? ⟨gb148, 5, none⟩ = some (.int .i64 x149005_7) := (blk_cell BK148.out 5).trans rfl; have hcz43_6 : w41.cell? ⟨gb148, 6, none⟩ = some (.int .i64 x149006_7) := (blk_cell BK148.out 6).trans rfl; have hfz43_0 := blk_frozen BK148.out 0; have hfz43_1 := blk_frozen BK148.out 1; have hfz43_2 := blk_frozen BK148.out 2; have hfz43_3 := blk_frozen BK148.out 3; have hfz43_4 := blk_frozen BK148.out 4; have hfz43_5 := blk_frozen BK148.out 5; have hfz43_6 := blk_frozen BK148.out 6))
                                  refine bodyPost_ret (results_ct rfl _ _ gb148 26 #[.int .i64 x151000_7, .int .i64 (rd x5_2 0), .int .i64 (rd x5_2 1), .int .i64 (rd x5_2 2), .int .i64 (rd x5_2 3), .int .i64 (rd x5_2 4), .int .i64 (rd x5_2 5)] (0, 0) _ rfl (by (with_reducible repeat (first | refine blk_drewN ?_ _ | refine blk_drew ?_ | refine blk_alloc ?_ _)); refine blk_put (cs := #[.int .i64 x151000_7, .int .i64 (rd x5_2 0), .int .i64 (rd x5_2 1), .int .i64 (rd x5_2 2), .int .i64 (rd x5_2 3), .int .i64 (rd x5_2 4), .int .i64 x149006_7]) ?_ 6 _ rfl; (with_reducible repeat (first | refine blk_drewN ?_ _ | refine blk_drew ?_ | refine blk_alloc ?_ _)); refine blk_put (cs := #[.int .i64 x151000_7, .int .i64 (rd x5_2 0), .int .i64 (rd x5_2 1), .int .i64 (rd x5_2 2), .int .i64 (rd x5_2 3), .int .i64 x149005_7, .int .i64 x149006_7]) ?_ 5 _ rfl; (with_reducible repeat (first | refine blk_drewN ?_ _ | refine blk_drew ?_ | refine blk_alloc ?_ _)); refine blk_put (cs := #[.int .i64 x151000_7, .int .i64 (rd x5_2 0), .int .i64 (rd x5_2 1), .int .i64 (rd x5_2 2), .int .i64 x149004_7, .int .i64 x149005_7, .int .i64 x149006_7]) ?_ 4 _ rfl; (with_reducible repeat (first | refine blk_drewN ?_ _ | refine blk_drew ?_ | refine blk_alloc ?_ _)); refine blk_put (cs := #[.int .i64 x151000_7, .int .i64 (rd x5_2 0), .int .i64 (rd x5_2 1), .int .i64 x149003_7, .int .i64 x149004_7, .int .i64 x149005_7, .int .i64 x149006_7]) ?_ 3 _ rfl; (with_reducible repeat (first | refine blk_drewN ?_ _ | refine blk_drew ?_ | refine blk_alloc ?_ _)); refine blk_put (cs := #[.int .i64 x151000_7, .int .i64 (rd x5_2 0), .int .i64 x149002_7, .int .i64 x149003_7, .int .i64 x149004_7, .int .i64 x149005_7, .int .i64 x149006_7]) ?_ 2 _ rfl; (with_reducible repeat (first | refine blk_drewN ?_ _ | refine blk_drew ?_ | refine blk_alloc ?_ _)); refine blk_put (cs := #[.int .i64 x151000_7, .int .i64 x149001_7, .int .i64 x149002_7, .int .i64 x149003_7, .int .i64 x149004_7, .int .i64 x149005_7, .int .i64 x149006_7]) ?_ 1 _ rfl; (with_reducible repeat (first | refine blk_drewN ?_ _ | refine blk_drew ?_ | refine blk_alloc ?_ _)); refine blk_put (cs := #[.int .i64 x149000_7, .int .i64 x149001_7, .int .i64 x149002_7, .int .i64 x149003_7, .int .i64 x149004_7, .int .i64 x149005_7, .int .i64 x149006_7]) ?_ 0 _ rfl; (with_reducible repeat (first | refine blk_drewN ?_ _ | refine blk_drew ?_ | refine blk_alloc ?_ _)); exact BK148.out) Try.underlying26 rfl (by kernel_rfl)) rfl ?_
                                  exact ⟨by first | rfl | (simp [errW_none, errW_some] <;> rfl) | (simp [*, errW_none, errW_some] <;> rfl), by repeat (first | (with_reducible first | exact HB.out | apply below_alloc | apply pw_below_drewN | apply below_drew1 | refine below_set ?_ GE148.out | refine below_set ?_ GE150.out) | exact HB.out)⟩
                                · replace c37 := Bool.eq_false_iff.mpr c37
                                  subst c37
                                  have H1 : (some (0, 0, 0, 0, 0, 0, 0, 4)) = some (r1, r2, r3, r4, r5, r6, r7, r8) := by rw [if_neg (show ¬ (false = true) by decide)] at H; exact H
                                  clear H
                                  have H := H1
                                  clear H1
                                  simp only [Option.some.injEq, Prod.mk.injEq] at H
                                  obtain ⟨rfl, rfl, rfl, rfl, rfl, rfl, rfl, rfl⟩ := H
                                  obtain ⟨Ao44, co44, eo44⟩ := Kd.R_slice HO_5.out
                                  subst eo44
                                  have p163 : 0 ≤ (0 : Int) := (by omega)
                                  have q163 : 0 < (x5_2.length : Int) := of_decide_eq_true (by first | (with_reducible assumption) | assumption)
                                  obtain ⟨ad163, e163, hx163_0⟩ := Kd.at_int (Kd.R_reads' HO_5.out).2.2 0 p163 q163
                                  cases e163
                                  have qi163 : (0 < x5_2.length) = True := eq_true (by omega)
                                  (try rw [show ((0 : Int)).toNat = 0 from rfl] at hx163_0)
                                  (try rw [Addr.add_zero'] at hx163_0)
                                  replace p163 := eq_true p163
                                  replace q163 := eq_true q163
                                  have hnb45 := NB150_148.out
                                  have hnc45 := NB148_150.out
                                  have hcz46_0 : wr.cell? ⟨gb150, 0, none⟩ = some (.int .i64 x151000_7) := (blk_cell BK150.out 0).trans rfl
                                  have hcz46_1 : wr.cell? ⟨gb150, 1, none⟩ = some (.int .i64 0) := (blk_cell BK150.out 1).trans rfl
                                  have hcz46_2 : wr.cell? ⟨gb150, 2, none⟩ = some (.int .i64 0) := (blk_cell BK150.out 2).trans rfl
                                  have hcz46_3 : wr.cell? ⟨gb150, 3, none⟩ = some (.int .i64 0) := (blk_cell BK150.out 3).trans rfl
                                  have hcz46_4 : wr.cell? ⟨gb150, 4, none⟩ = some (.int .i64 0) := (blk_cell BK150.out 4).trans rfl
                                  have hcz46_5 : wr.cell? ⟨gb150, 5, none⟩ = some (.int .i64 0) := (blk_cell BK150.out 5).trans rfl
                                  have hcz46_6 : wr.cell? ⟨gb150, 6, none⟩ = some (.int .i64 0) := (blk_cell BK150.out 6).trans rfl
                                  have hfz46_0 := blk_frozen BK150.out 0
                                  have hfz46_1 := blk_frozen BK150.out 1
                                  have hfz46_2 := blk_frozen BK150.out 2
                                  have hfz46_3 := blk_frozen BK150.out 3
                                  have hfz46_4 := blk_frozen BK150.out 4
                                  have hfz46_5 := blk_frozen BK150.out 5
                                  have hfz46_6 := blk_frozen BK150.out 6
                                  have p164 : 0 ≤ (1 : Int) := (by omega)
                                  have q164 : 1 < (x5_2.length : Int) := of_decide_eq_true (by first | (with_reducible assumption) | assumption)
                                  obtain ⟨ad164, e164, hx164_0⟩ := Kd.at_int (Kd.R_reads' HO_5.out).2.2 1 p164 q164
                                  obtain rfl : ad163 = ad164 := (by injection e164)
                                  (try simp only [show (1 : Int).toNat = 1 from rfl, Nat.reduceMul, Nat.reduceEqDiff, Go.Addr.add, ↓reduceIte] at hx164_0)
                                  have qi164 : (1 < x5_2.length) = True := eq_true (by omega)
                                  (try rw [show ((1 : Int)).toNat = 1 from rfl] at hx164_0)
                                  have hn164_0 : ad163.block ≠ gb150 := Kd.own_blk (Kd.R_ne HO_5.out BK150.out (by decide))
                                  replace hx164_0 := (cell_far (p := ⟨gb150, 1, none⟩) (by first | (rw [add_block]; exact hn164_0) | (show (Addr.add _ _).block ≠ _; rw [add_block]; exact hn164_0) | exact hn164_0) (.int .i64 (rd x5_2 0))).trans hx164_0
                                  clear hn164_0
                                  replace p164 := eq_true p164
                                  replace q164 := eq_true q164
                                  have p165 : 0 ≤ (2 : Int) := (by omega)
                                  have q165 : 2 < (x5_2.length : Int) := of_decide_eq_true (by first | (with_reducible assumption) | assumption)
                                  obtain ⟨ad165, e165, hx165_0⟩ := Kd.at_int (Kd.R_reads' HO_5.out).2.2 2 p165 q165
                                  obtain rfl : ad163 = ad165 := (by injection e165)
                                  (try simp only [show (2 : Int).toNat = 2 from rfl, Nat.reduceMul, Nat.reduceEqDiff, Go.Addr.add, ↓reduceIte] at hx165_0)
                                  have qi165 : (2 < x5_2.length) = True := eq_true (by omega)
                                  (try rw [show ((2 : Int)).toNat = 2 from rfl] at hx165_0)
                                  have hn165_0 : ad163.block ≠ gb150 := Kd.own_blk (Kd.R_ne HO_5.out BK150.out (by decide))
                                  have hn165_1 : ad163.block ≠ gb150 := Kd.own_blk (Kd.R_ne HO_5.out BK150.out (by decide))
                                  replace hx165_0 := (cell_far (p := ⟨gb150, 1, none⟩) (by first | (rw [add_block]; exact hn165_0) | (show (Addr.add _ _).block ≠ _; rw [add_block]; exact hn165_0) | exact hn165_0) (.int .i64 (rd x5_2 0))).trans hx165_0
                                  replace hx165_0 := (cell_far (p := ⟨gb150, 2, none⟩) (by first | (rw [add_block]; exact hn165_1) | (show (Addr.add _ _).block ≠ _; rw [add_block]; exact hn165_1) | exact hn165_1) (.int .i64 (rd x5_2 1))).trans hx165_0
                                  clear hn165_0
                                  clear hn165_1
                                  replace p165 := eq_true p165
                                  replace q165 := eq_true q165
                                  have p166 : 0 ≤ (3 : Int) := (by omega)
                                  have q166 : 3 < (x5_2.length : Int) := of_decide_eq_true (by first | (with_reducible assumption) | assumption)
                                  obtain ⟨ad166, e166, hx166_0⟩ := Kd.at_int (Kd.R_reads' HO_5.out).2.2 3 p166 q166
                                  obtain rfl : ad163 = ad166 := (by injection e166)
                                  (try simp only [show (3 : Int).toNat = 3 from rfl, Nat.reduceMul, Nat.reduceEqDiff, Go.Addr.add, ↓reduceIte] at hx166_0)
                                  have qi166 : (3 < x5_2.length) = True := eq_true (by omega)
                                  (try rw [show ((3 : Int)).toNat = 3 from rfl] at hx166_0)
                                  have hn166_0 : ad163.block ≠ gb150 := Kd.own_blk (Kd.R_ne HO_5.out BK150.out (by decide))
                                  have hn166_1 : ad163.block ≠ gb150 := Kd.own_blk (Kd.R_ne HO_5.out BK150.out (by decide))
                                  have hn166_2 : ad163.block ≠ gb150 := Kd.own_blk (Kd.R_ne HO_5.out BK150.out (by decide))
                                  replace hx166_0 := (cell_far (p := ⟨gb150, 1, none⟩) (by first | (rw [add_block]; exact hn166_0) | (show (Addr.add _ _).block ≠ _; rw [add_block]; exact hn166_0) | exact hn166_0) (.int .i64 (rd x5_2 0))).trans hx166_0
                                  replace hx166_0 := (cell_far (p := ⟨gb150, 2, none⟩) (by first | (rw [add_block]; exact hn166_1) | (show (Addr.add _ _).block ≠ _; rw [add_block]; exact hn166_1) | exact hn166_1) (.int .i64 (rd x5_2 1))).trans hx166_0
                                  replace hx166_0 := (cell_far (p := ⟨gb150, 3, none⟩) (by first | (rw [add_block]; exact hn166_2) | (show (Addr.add _ _).block ≠ _; rw [add_block]; exact hn166_2) | exact hn166_2) (.int .i64 (rd x5_2 2))).trans hx166_0
                                  clear hn166_0
                                  clear hn166_1
                                  clear hn166_2
                                  replace p166 := eq_true p166
                                  replace q166 := eq_true q166
                                  have p167 : 0 ≤ (4 : Int) := (by omega)
                                  have q167 : 4 < (x5_2.length : Int) := of_decide_eq_true (by first | (with_reducible assumption) | assumption)
                                  obtain ⟨ad167, e167, hx167_0⟩ := Kd.at_int (Kd.R_reads' HO_5.out).2.2 4 p167 q167
                                  obtain rfl : ad163 = ad167 := (by injection e167)
                                  (try simp only [show (4 : Int).toNat = 4 from rfl, Nat.reduceMul, Nat.reduceEqDiff, Go.Addr.add, ↓reduceIte] at hx167_0)
                                  have qi167 : (4 < x5_2.length) = True := eq_true (by omega)
                                  (try rw [show ((4 : Int)).toNat = 4 from rfl] at hx167_0)
                                  have hn167_0 : ad163.block ≠ gb150 := Kd.own_blk (Kd.R_ne HO_5.out BK150.out (by decide))
                                  have hn167_1 : ad163.block ≠ gb150 := Kd.own_blk (Kd.R_ne HO_5.out BK150.out (by decide))
                                  have hn167_2 : ad163.block ≠ gb150 := Kd.own_blk (Kd.R_ne HO_5.out BK150.out (by decide))
                                  have hn167_3 : ad163.block ≠ gb150 := Kd.own_blk (Kd.R_ne HO_5.out BK150.out (by decide))
                                  replace hx167_0 := (cell_far (p := ⟨gb150, 1, none⟩) (by first | (rw [add_block]; exact hn167_0) | (show (Addr.add _ _).block ≠ _; rw [add_block]; exact hn167_0) | exact hn167_0) (.int .i64 (rd x5_2 0))).trans hx167_0
                                  replace hx167_0 := (cell_far (p := ⟨gb150, 2, none⟩) (by first | (rw [add_block]; exact hn167_1) | (show (Addr.add _ _).block ≠ _; rw [add_block]; exact hn167_1) | exact hn167_1) (.int .i64 (rd x5_2 1))).trans hx167_0
                                  replace hx167_0 := (cell_far (p := ⟨gb150, 3, none⟩) (by first | (rw [add_block]; exact hn167_2) | (show (Addr.add _ _).block ≠ _; rw [add_block]; exact hn167_2) | exact hn167_2) (.int .i64 (rd x5_2 2))).trans hx167_0
                                  replace hx167_0 := (cell_far (p := ⟨gb150, 4, none⟩) (by first | (rw [add_block]; exact hn167_3) | (show (Addr.add _ _).block ≠ _; rw [add_block]; exact hn167_3) | exact hn167_3) (.int .i64 (rd x5_2 3))).trans hx167_0
                                  clear hn167_0
                                  clear hn167_1
                                  clear hn167_2
                                  clear hn167_3
                                  replace p167 := eq_true p167
                                  replace q167 := eq_true q167
                                  have p168 : 0 ≤ (5 : Int) := (by omega)
                                  have q168 : 5 < (x5_2.length : Int) := of_decide_eq_true (by first | (with_reducible assumption) | assumption)
                                  obtain ⟨ad168, e168, hx168_0⟩ := Kd.at_int (Kd.R_reads' HO_5.out).2.2 5 p168 q168
                                  obtain rfl : ad163 = ad168 := (by injection e168)
                                  (try simp only [show (5 : Int).toNat = 5 from rfl, Nat.reduceMul, Nat.reduceEqDiff, Go.Addr.add, ↓reduceIte] at hx168_0)
                                  have qi168 : (5 < x5_2.length) = True := eq_true (by omega)
                                  (try rw [show ((5 : Int)).toNat = 5 from rfl] at hx168_0)
                                  have hn168_0 : ad163.block ≠ gb150 := Kd.own_blk (Kd.R_ne HO_5.out BK150.out (by decide))
                                  have hn168_1 : ad163.block ≠ gb150 := Kd.own_blk (Kd.R_ne HO_5.out BK150.out (by decide))
                                  have hn168_2 : ad163.block ≠ gb150 := Kd.own_blk (Kd.R_ne HO_5.out BK150.out (by decide))
                                  have hn168_3 : ad163.block ≠ gb150 := Kd.own_blk (Kd.R_ne HO_5.out BK150.out (by decide))
                                  have hn168_4 : ad163.block ≠ gb150 := Kd.own_blk (Kd.R_ne HO_5.out BK150.out (by decide))
                                  replace hx168_0 := (cell_far (p := ⟨gb150, 1, none⟩) (by first | (rw [add_block]; exact hn168_0) | (show (Addr.add _ _).block ≠ _; rw [add_block]; exact hn168_0) | exact hn168_0) (.int .i64 (rd x5_2 0))).trans hx168_0
                                  replace hx168_0 := (cell_far (p := ⟨gb150, 2, none⟩) (by first | (rw [add_block]; exact hn168_1) | (show (Addr.add _ _).block ≠ _; rw [add_block]; exact hn168_1) | exact hn168_1) (.int .i64 (rd x5_2 1))).trans hx168_0
                                  replace hx168_0 := (cell_far (p := ⟨gb150, 3, none⟩) (by first | (rw [add_block]; exact hn168_2) | (show (Addr.add _ _).block ≠ _; rw [add_block]; exact hn168_2) | exact hn168_2) (.int .i64 (rd x5_2 2))).trans hx168_0
                                  replace hx168_0 := (cell_far (p := ⟨gb150, 4, none⟩) (by first | (rw [add_block]; exact hn168_3) | (show (Addr.add _ _).block ≠ _; rw [add_block]; exact hn168_3) | exact hn168_3) (.int .i64 (rd x5_2 3))).trans hx168_0
                                  replace hx168_0 := (cell_far (p := ⟨gb150, 5, none⟩) (by first | (rw [add_block]; exact hn168_4) | (show (Addr.add _ _).block ≠ _; rw [add_block]; exact hn168_4) | exact hn168_4) (.int .i64 (rd x5_2 4))).trans hx168_0
                                  clear hn168_0
                                  clear hn168_1
                                  clear hn168_2
                                  clear hn168_3
                                  clear hn168_4
                                  replace p168 := eq_true p168
                                  replace q168 := eq_true q168
                                  go_wp2_with (first | ((with_reducible refine gate_callee (f := 10) rfl ?_); refine goesL_ (some 84) rfl rfl Try.func10 (by kernel_rfl) rfl #[.agg #[.int .i64 x151000_7, .int .i64 (rd x5_2 0), .int .i64 (rd x5_2 1), .int .i64 (rd x5_2 2), .int .i64 (rd x5_2 3), .int .i64 (rd x5_2 4), .int .i64 (rd x5_2 5)]] rfl (by (try simp only [List.map_toArray, List.map_cons, List.map_nil]); first | done | rfl | (simp only [List.length_drop, List.length_take]; rfl)) ?_; (with_reducible refine (longcaseref05_Right.calls k2 x151000_7 (rd x5_2 0) (rd x5_2 1) (rd x5_2 2) (rd x5_2 3) (rd x5_2 4) (rd x5_2 5) false _ A36.out).mono ?_); rintro e w47 ⟨rfl, hb⟩; refine ⟨_, rfl, ?_⟩; have n0_ := Aside0.mk (Kd.R_below (by (with_reducible repeat (first | apply Kd.R_alloc | apply Kd.R_drewN | apply Kd.R_drew)); exact (Kd.R_mono (Kd.R_far (p := ⟨gb150, 6, none⟩) (Kd.R_far (p := ⟨gb150, 5, none⟩) (Kd.R_far (p := ⟨gb150, 4, none⟩) (Kd.R_far (p := ⟨gb150, 3, none⟩) (Kd.R_far (p := ⟨gb150, 2, none⟩) (Kd.R_far (p := ⟨gb150, 1, none⟩) (Kd.R_types HO_5.out BK150.out (by decide)) (fun _ hk => hk.2) (.int .i64 (rd x5_2 0))) (fun _ hk => hk.2) (.int .i64 (rd x5_2 1))) (fun _ hk => hk.2) (.int .i64 (rd x5_2 2))) (fun _ hk => hk.2) (.int .i64 (rd x5_2 3))) (fun _ hk => hk.2) (.int .i64 (rd x5_2 4))) (fun _ hk => hk.2) (.int .i64 (rd x5_2 5))) (fun _ h_ => h_.1))) hb); have n1_ := Aside0.mk (blk_below (g := gb148) (o := .cells #[.int .i64 x149000_7, .int .i64 x149001_7, .int .i64 x149002_7, .int .i64 x149003_7, .int .i64 x149004_7, .int .i64 x149005_7, .int .i64 x149006_7] 26 (0, 0)) (by (with_reducible repeat (first | refine blk_drewN ?_ _ | refine blk_drew ?_ | refine blk_alloc ?_ _)); refine blk_far ?_ NB148_150.out _; (with_reducible repeat (first | refine blk_drewN ?_ _ | refine blk_drew ?_ | refine blk_alloc ?_ _)); refine blk_far ?_ NB148_150.out _; (with_reducible repeat (first | refine blk_drewN ?_ _ | refine blk_drew ?_ | refine blk_alloc ?_ _)); refine blk_far ?_ NB148_150.out _; (with_reducible repeat (first | refine blk_drewN ?_ _ | refine blk_drew ?_ | refine blk_alloc ?_ _)); refine blk_far ?_ NB148_150.out _; (with_reducible repeat (first | refine blk_drewN ?_ _ | refine blk_drew ?_ | refine blk_alloc ?_ _)); refine blk_far ?_ NB148_150.out _; (with_reducible repeat (first | refine blk_drewN ?_ _ | refine blk_drew ?_ | refine blk_alloc ?_ _)); refine blk_far ?_ NB148_150.out _; (with_reducible repeat (first | refine blk_drewN ?_ _ | refine blk_drew ?_ | refine blk_alloc ?_ _)); exact BK148.out) hb); have n2_ := Aside0.mk (blk_below (g := gb150) (o := .cells #[.int .i64 x151000_7, .int .i64 (rd x5_2 0), .int .i64 (rd x5_2 1), .int .i64 (rd x5_2 2), .int .i64 (rd x5_2 3), .int .i64 (rd x5_2 4), .int .i64 (rd x5_2 5)] 26 (0, 0)) (by (with_reducible repeat (first | refine blk_drewN ?_ _ | refine blk_drew ?_ | refine blk_alloc ?_ _)); refine blk_put (cs := #[.int .i64 x151000_7, .int .i64 (rd x5_2 0), .int .i64 (rd x5_2 1), .int .i64 (rd x5_2 2), .int .i64 (rd x5_2 3), .int .i64 (rd x5_2 4), .int .i64 0]) ?_ 6 _ rfl; (with_reducible repeat (first | refine blk_drewN ?_ _ | refine blk_drew ?_ | refine blk_alloc ?_ _)); refine blk_put (cs := #[.int .i64 x151000_7, .int .i64 (rd x5_2 0), .int .i64 (rd x5_2 1), .int .i64 (rd x5_2 2), .int .i64 (rd x5_2 3), .int .i64 0, .int .i64 0]) ?_ 5 _ rfl; (with_reducible repeat (first | refine blk_drewN ?_ _ | refine blk_drew ?_ | refine blk_alloc ?_ _)); refine blk_put (cs := #[.int .i64 x151000_7, .int .i64 (rd x5_2 0), .int .i64 (rd x5_2 1), .int .i64 (rd x5_2 2), .int .i64 0, .int .i64 0, .int .i64 0]) ?_ 4 _ rfl; (with_reducible repeat (first | refine blk_drewN ?_ _ | refine blk_drew ?_ | refine blk_alloc ?_ _)); refine blk_put (cs := #[.int .i64 x151000_7, .int .i64 (rd x5_2 0), .int .i64 (rd x5_2 1), .int .i64 0, .int .i64 0, .int .i64 0, .int .i64 0]) ?_ 3 _ rfl; (with_reducible repeat (first | refine blk_drewN ?_ _ | refine blk_drew ?_ | refine blk_alloc ?_ _)); refine blk_put (cs := #[.int .i64 x151000_7, .int .i64 (rd x5_2 0), .int .i64 0, .int .i64 0, .int .i64 0, .int .i64 0, .int .i64 0]) ?_ 2 _ rfl; (with_reducible repeat (first | refine blk_drewN ?_ _ | refine blk_drew ?_ | refine blk_alloc ?_ _)); refine blk_put (cs := #[.int .i64 x151000_7, .int .i64 0, .int .i64 0, .int .i64 0, .int .i64 0, .int .i64 0, .int .i64 0]) ?_ 1 _ rfl; (with_reducible repeat (first | refine blk_drewN ?_ _ | refine blk_drew ?_ | refine blk_alloc ?_ _)); exact BK150.out) hb); have n3_ := Aside0.mk (below_step (by repeat (first | (with_reducible first | exact HB.out | apply below_alloc | apply pw_below_drewN | apply below_drew1 | refine below_set ?_ GE148.out | refine below_set ?_ GE150.out) | exact HB.out)) hb); clear HO_5; clear BK148; clear BK150; clear HB; have HO_5 := n0_; have BK148 := n1_; have BK150 := n2_; have HB := n3_; clear n0_ n1_ n2_ n3_; (try clear hb); (try clear hb2); (try clear hk); (try clear hi); have hcz48_0 : w47.cell? ⟨gb148, 0, none⟩ = some (.int .i64 x149000_7) := (blk_cell BK148.out 0).trans rfl; have hcz48_1 : w47.cell? ⟨gb148, 1, none⟩ = some (.int .i64 x149001_7) := (blk_cell BK148.out 1).trans rfl; have hcz48_2 : w47.cell? ⟨gb148, 2, none⟩ = some (.int .i64 x149002_7) := (blk_cell BK148.out 2).trans rfl; have hcz48_3 : w47.cell? ⟨gb148, 3, none⟩ = some (.int .i64 x149003_7) := (blk_cell BK148.out 3).trans rfl; have hcz48_4 : w47.cell? ⟨gb148, 4, none⟩ = some (.int .i64 x149004_7) := (blk_cell BK148.out 4).trans rfl; have hcz48_5 : w47.cell? ⟨gb148, 5, none⟩ = some (.int .i64 x149005_7) := (blk_cell BK148.out 5).trans rfl; have hcz48_6 : w47.cell? ⟨gb148, 6, none⟩ = some (.int .i64 x149006_7) := (blk_cell BK148.out 6).trans rfl; have hfz48_0 := blk_frozen BK148.out 0; have hfz48_1 := blk_frozen BK148.out 1; have hfz48_2 := blk_frozen BK148.out 2; have hfz48_3 := blk_frozen BK148.out 3; have hfz48_4 := blk_frozen BK148.out 4; have hfz48_5 := blk_frozen BK148.out 5; have hfz48_6 := blk_frozen BK148.out 6))
                                  refine bodyPost_ret (results_ct rfl _ _ gb148 26 #[.int .i64 0, .int .i64 0, .int .i64 0, .int .i64 0, .int .i64 0, .int .i64 0, .int .i64 0] (0, 0) _ rfl (by (with_reducible repeat (first | refine blk_drewN ?_ _ | refine blk_drew ?_ | refine blk_alloc ?_ _)); refine blk_put (cs := #[.int .i64 0, .int .i64 0, .int .i64 0, .int .i64 0, .int .i64 0, .int .i64 0, .int .i64 x149006_7]) ?_ 6 _ rfl; (with_reducible repeat (first | refine blk_drewN ?_ _ | refine blk_drew ?_ | refine blk_alloc ?_ _)); refine blk_put (cs := #[.int .i64 0, .int .i64 0, .int .i64 0, .int .i64 0, .int .i64 0, .int .i64 x149005_7, .int .i64 x149006_7]) ?_ 5 _ rfl; (with_reducible repeat (first | refine blk_drewN ?_ _ | refine blk_drew ?_ | refine blk_alloc ?_ _)); refine blk_put (cs := #[.int .i64 0, .int .i64 0, .int .i64 0, .int .i64 0, .int .i64 x149004_7, .int .i64 x149005_7, .int .i64 x149006_7]) ?_ 4 _ rfl; (with_reducible repeat (first | refine blk_drewN ?_ _ | refine blk_drew ?_ | refine blk_alloc ?_ _)); refine blk_put (cs := #[.int .i64 0, .int .i64 0, .int .i64 0, .int .i64 x149003_7, .int .i64 x149004_7, .int .i64 x149005_7, .int .i64 x149006_7]) ?_ 3 _ rfl; (with_reducible repeat (first | refine blk_drewN ?_ _ | refine blk_drew ?_ | refine blk_alloc ?_ _)); refine blk_put (cs := #[.int .i64 0, .int .i64 0, .int .i64 x149002_7, .int .i64 x149003_7, .int .i64 x149004_7, .int .i64 x149005_7, .int .i64 x149006_7]) ?_ 2 _ rfl; (with_reducible repeat (first | refine blk_drewN ?_ _ | refine blk_drew ?_ | refine blk_alloc ?_ _)); refine blk_put (cs := #[.int .i64 0, .int .i64 x149001_7, .int .i64 x149002_7, .int .i64 x149003_7, .int .i64 x149004_7, .int .i64 x149005_7, .int .i64 x149006_7]) ?_ 1 _ rfl; (with_reducible repeat (first | refine blk_drewN ?_ _ | refine blk_drew ?_ | refine blk_alloc ?_ _)); refine blk_put (cs := #[.int .i64 x149000_7, .int .i64 x149001_7, .int .i64 x149002_7, .int .i64 x149003_7, .int .i64 x149004_7, .int .i64 x149005_7, .int .i64 x149006_7]) ?_ 0 _ rfl; (with_reducible repeat (first | refine blk_drewN ?_ _ | refine blk_drew ?_ | refine blk_alloc ?_ _)); exact BK148.out) Try.underlying26 rfl (by kernel_rfl)) rfl ?_
                                  exact ⟨by first | rfl | (simp [errW_none, errW_some] <;> rfl) | (simp [*, errW_none, errW_some] <;> rfl), by repeat (first | (with_reducible first | exact HB.out | apply below_alloc | apply pw_below_drewN | apply below_drew1 | refine below_set ?_ GE148.out | refine below_set ?_ GE150.out) | exact HB.out)⟩
                              · rw [if_neg c35] at H
                                exact absurd H (by simp)
                            · rw [if_neg c34] at H
                              exact absurd H (by simp)
                          · rw [if_neg c33] at H
                            exact absurd H (by simp)
                        · rw [if_neg c32] at H
                          exact absurd H (by simp)
                      · rw [if_neg c31] at H
                        exact absurd H (by simp)
                    · rw [if_neg c30] at H
                      exact absurd H (by simp)
        · rw [if_neg c7] at H
          exact absurd H (by simp)
      · rw [if_neg c6] at H
        have c6b0 : ((strOfNums (l0.take 4)).toList == ([84, 90, 105, 102] : List UInt8)) = false := beq_eq_false_iff_ne.mpr c6
        have c6b1 : ((strOfNums (l0.take 4)).toList != ([84, 90, 105, 102] : List UInt8)) = true := bne_iff_ne.mpr c6
        simp only [Option.some.injEq, Prod.mk.injEq] at H
        obtain ⟨rfl, rfl, rfl, rfl, rfl, rfl, rfl, rfl⟩ := H
        go_enter Try.func18, Try.ntmps18
        go_wp2_with (first | ((with_reducible refine gate_dst (N := 2) rfl ?_); refine box_event ?hg (N := 2) ?hd (cs := #[.int .i64 0, .int .i64 0, .int .i64 0, .int .i64 0, .int .i64 0, .int .i64 0, .int .i64 0]) (t := 26) ?hr ?_; (case hd => rfl); (case hg => rfl); (case hr => first | (go_simp; done) | (go_simp; rfl)); intro gb148 hg w49 hbox hb; have n0_ := Aside0.mk (below_step (by repeat (first | (with_reducible first | exact HB.out | apply below_alloc | apply pw_below_drewN | apply below_drew1) | exact HB.out)) hb); have n1_ := Aside0.mk (hbox); have n2_ := Aside0.mk ((by rw [hg]; exact (below_size (by repeat (first | (with_reducible first | exact HB.out | apply below_alloc | apply pw_below_drewN | apply below_drew1) | exact HB.out))) : w.heap.size ≤ gb148)); have n3_ := Aside0.mk ((by rw [hg]; exact (below_size (by repeat (first | (with_reducible first | exact HB.out | apply below_alloc | apply pw_below_drewN | apply below_drew1) | exact HB.out))) : w.heap.size ≤ gb148)); clear HB; have HB := n0_; have BK148 := n1_; have GW148 := n2_; have GE148 := n3_; clear n0_ n1_ n2_ n3_; clear hb hbox hg; obtain ⟨i050, hi050, _, hsz50, _⟩ := info_parts info5; obtain ⟨hcut50, hA50, hC50⟩ := print_take_of (P := Try.prog) (Value.int .u8) 0 28 5 .i64 Try.underlying28 hi050 hsz50 A0 c0 l0 4 (by omega) (of_decide_eq_true (by first | (with_reducible assumption) | assumption)) HC0.out; have HR149 := Aside0.mk (Kd.C_of_reads (h1 := fun _ => rfl) (hA50 _ (Kd.reads_of_C HR0.out))); have HC149 := Aside0.mk hC50; clear hA50 hC50 hi050 hsz50; generalize hL_ : List.take (Int.toNat 4) l0 = L_4 at hcut50 HR149 HC149; (try rw [show l0.take 4 = L_4 from hL_] at c6b0 c6b1); have hcv51 := Kd.C_string (P := Try.prog) (A := A0) (c := c0) Try.underlying28 Try.underlying5 Try.underlying9 (Kd.C_below HR149.out HB.out); have hcz52_0 : w49.cell? ⟨gb148, 0, none⟩ = some (.int .i64 0) := (blk_cell BK148.out 0).trans rfl; have hcz52_1 : w49.cell? ⟨gb148, 1, none⟩ = some (.int .i64 0) := (blk_cell BK148.out 1).trans rfl; have hcz52_2 : w49.cell? ⟨gb148, 2, none⟩ = some (.int .i64 0) := (blk_cell BK148.out 2).trans rfl; have hcz52_3 : w49.cell? ⟨gb148, 3, none⟩ = some (.int .i64 0) := (blk_cell BK148.out 3).trans rfl; have hcz52_4 : w49.cell? ⟨gb148, 4, none⟩ = some (.int .i64 0) := (blk_cell BK148.out 4).trans rfl; have hcz52_5 : w49.cell? ⟨gb148, 5, none⟩ = some (.int .i64 0) := (blk_cell BK148.out 5).trans rfl; have hcz52_6 : w49.cell? ⟨gb148, 6, none⟩ = some (.int .i64 0) := (blk_cell BK148.out 6).trans rfl; have hfz52_0 := blk_frozen BK148.out 0; have hfz52_1 := blk_frozen BK148.out 1; have hfz52_2 := blk_frozen BK148.out 2; have hfz52_3 := blk_frozen BK148.out 3; have hfz52_4 := blk_frozen BK148.out 4; have hfz52_5 := blk_frozen BK148.out 5; have hfz52_6 := blk_frozen BK148.out 6))
        refine bodyPost_ret (results_ct rfl _ _ gb148 26 #[.int .i64 0, .int .i64 0, .int .i64 0, .int .i64 0, .int .i64 0, .int .i64 0, .int .i64 0] (0, 0) _ rfl (by (with_reducible repeat (first | refine blk_drewN ?_ _ | refine blk_drew ?_ | refine blk_alloc ?_ _)); refine blk_put (cs := #[.int .i64 0, .int .i64 0, .int .i64 0, .int .i64 0, .int .i64 0, .int .i64 0, .int .i64 0]) ?_ 6 _ rfl; (with_reducible repeat (first | refine blk_drewN ?_ _ | refine blk_drew ?_ | refine blk_alloc ?_ _)); refine blk_put (cs := #[.int .i64 0, .int .i64 0, .int .i64 0, .int .i64 0, .int .i64 0, .int .i64 0, .int .i64 0]) ?_ 5 _ rfl; (with_reducible repeat (first | refine blk_drewN ?_ _ | refine blk_drew ?_ | refine blk_alloc ?_ _)); refine blk_put (cs := #[.int .i64 0, .int .i64 0, .int .i64 0, .int .i64 0, .int .i64 0, .int .i64 0, .int .i64 0]) ?_ 4 _ rfl; (with_reducible repeat (first | refine blk_drewN ?_ _ | refine blk_drew ?_ | refine blk_alloc ?_ _)); refine blk_put (cs := #[.int .i64 0, .int .i64 0, .int .i64 0, .int .i64 0, .int .i64 0, .int .i64 0, .int .i64 0]) ?_ 3 _ rfl; (with_reducible repeat (first | refine blk_drewN ?_ _ | refine blk_drew ?_ | refine blk_alloc ?_ _)); refine blk_put (cs := #[.int .i64 0, .int .i64 0, .int .i64 0, .int .i64 0, .int .i64 0, .int .i64 0, .int .i64 0]) ?_ 2 _ rfl; (with_reducible repeat (first | refine blk_drewN ?_ _ | refine blk_drew ?_ | refine blk_alloc ?_ _)); refine blk_put (cs := #[.int .i64 0, .int .i64 0, .int .i64 0, .int .i64 0, .int .i64 0, .int .i64 0, .int .i64 0]) ?_ 1 _ rfl; (with_reducible repeat (first | refine blk_drewN ?_ _ | refine blk_drew ?_ | refine blk_alloc ?_ _)); refine blk_put (cs := #[.int .i64 0, .int .i64 0, .int .i64 0, .int .i64 0, .int .i64 0, .int .i64 0, .int .i64 0]) ?_ 0 _ rfl; (with_reducible repeat (first | refine blk_drewN ?_ _ | refine blk_drew ?_ | refine blk_alloc ?_ _)); exact BK148.out) Try.underlying26 rfl (by kernel_rfl)) rfl ?_
        exact ⟨by first | rfl | (simp [errW_none, errW_some] <;> rfl) | (simp [*, errW_none, errW_some] <;> rfl), by repeat (first | (with_reducible first | exact HB.out | apply below_alloc | apply pw_below_drewN | apply below_drew1 | refine below_set ?_ GE148.out) | exact HB.out)⟩
    · rw [if_neg c5] at H
      exact absurd H (by simp)

end Go.Proofs.Ytgaibighfmcgoaa.PHdrA
