/- What the claim needs of its texts, one behind the other (laid by a program of the session's). -/
import Derived.Test.YthobnoknbdljgaaZOnce5
section
namespace Go.Proofs.Ythobnoknbdljgaa.PL1
open Go.Proofs.Ythobnoknbdljgaa.PB0
open Go.RowKit Go.Proofs.Ythobnoknbdljgaa.Stub2 Go.Proofs.Ythobnoknbdljgaa.Stub Go.Proofs.Ythobnoknbdljgaa.Hand Go.Proofs.YthobnoknbdljgaaW.PrintWords Go.Proofs.YthobnoknbdljgaaW.PrintLast Go.Proofs.YthobnoknbdljgaaW.PrintMore
attribute [local go_sem] max2_int min2_int max_two min_two max_three min_three max_four min_four
set_option linter.unusedVariables false
set_option linter.unusedSimpArgs false
mutual
def longcaselaw06_BlockOnce.j0 : Nat → List Int → Bool → Int → Int → Int → Int → Int → Int → Int → Int → Option (Bool)
 | 0, _, _, _, _, _, _, _, _, _, _ => none
 | k + 1, x0, x7, x8, x102000, x102001, x102002, x102003, x102004, x102005, x102006 => if x102004 > 60 then (longcaselaw06_BlockOnce.j1 k x0 x7 x8 true x102000 x102001 x102002 x102003 x102004 x102005 x102006) else (longcaselaw06_BlockOnce.j1 k x0 x7 x8 (decide (x102003 > 60)) x102000 x102001 x102002 x102003 x102004 x102005 x102006)
def longcaselaw06_BlockOnce.j1 : Nat → List Int → Bool → Int → Bool → Int → Int → Int → Int → Int → Int → Int → Option (Bool)
 | 0, _, _, _, _, _, _, _, _, _, _, _ => none
 | k + 1, x0, x7, x8, x30, x102000, x102001, x102002, x102003, x102004, x102005, x102006 => if x30 = true then (some x7) else ((block_Decode.f x0 x102000 x102001 x102002 x102003 x102004 x102005 x102006 x8).bind fun bt104 => (if bt104.2.2.2.2.2 = 0 then ((block_Encode.f bt104.1 bt104.2.1 bt104.2.2.1 bt104.2.2.2.1 bt104.2.2.2.2.1 x8 x102000).bind fun bt137 => ((block_Decode.f bt137.1 bt137.2.1 bt137.2.2.1 bt137.2.2.2.1 bt137.2.2.2.2.1 bt137.2.2.2.2.2.1 bt137.2.2.2.2.2.2.1 bt137.2.2.2.2.2.2.2.1 x8).bind fun bt149 => (if x7 = true then (if bt137.2.2.2.2.2.2.2.2 = 0 then (if bt149.2.2.2.2.2 = 0 then ((longcaselaw06_ref.f bt104.1 bt104.2.1 bt104.2.2.1 bt104.2.2.2.1 bt104.2.2.2.2.1).bind fun bt166 => ((longcaselaw06_ref.f bt149.1 bt149.2.1 bt149.2.2.1 bt149.2.2.2.1 bt149.2.2.2.2.1).bind fun bt181 => ((longcaseref06_Same.f bt166.1 bt166.2.1 bt166.2.2.1 bt166.2.2.2.1 bt166.2.2.2.2 bt181.1 bt181.2.1 bt181.2.2.1 bt181.2.2.2.1 bt181.2.2.2.2).bind fun t196 => (if t196 = true then (if bt137.2.2.2.2.2.1 = x102004 then (if bt137.2.2.2.2.2.2.1 = x102005 then (some (bt137.2.2.2.2.1 == x102003)) else (some false)) else (some false)) else (some false))))) else (some false)) else (some false)) else (some false)))) else (if x7 = true then ((longcaselaw06_ref.f bt104.1 bt104.2.1 bt104.2.2.1 bt104.2.2.2.1 bt104.2.2.2.2.1).bind fun bt121 => ((longcaseref06_Same.f bt121.1 bt121.2.1 bt121.2.2.1 bt121.2.2.2.1 bt121.2.2.2.2 ([] : List (S56)) ([] : List (S54)) ([] : List (S67)) ([] : List Bool) ([] : List Bool)).bind fun t136 => (some t136))) else (some false))))
end
def longcaselaw06_BlockOnce.f (k : Nat) (l0 : List Int) (a1_0 : Int) (a1_1 : Int) (a1_2 : Int) (a1_3 : Int) (a1_4 : Int) (a1_5 : Int) (a1_6 : Int) (a2 : Bool) : Option (Bool) := (longcaselaw06_shown.f).bind fun t102 => (if 0 ≤ (mn (l0.length : Int) 2000) then (if (mn (l0.length : Int) 2000) ≤ (l0.length : Int) then (if a2 = true then (longcaselaw06_BlockOnce.j0 k (l0.take ((mn (l0.length : Int) 2000) : Int).toNat) t102 8 a1_0 a1_1 a1_2 a1_3 a1_4 a1_5 a1_6) else (longcaselaw06_BlockOnce.j0 k (l0.take ((mn (l0.length : Int) 2000) : Int).toNat) t102 4 a1_0 a1_1 a1_2 a1_3 a1_4 a1_5 a1_6)) else (none)) else (none))
theorem longcaselaw06_BlockOnce.mono_l : ∀ k, (∀ y0 y1 y2 y3 y4 y5 y6 y7 y8 y9, LeO (longcaselaw06_BlockOnce.j0 k y0 y1 y2 y3 y4 y5 y6 y7 y8 y9) (longcaselaw06_BlockOnce.j0 (k + 1) y0 y1 y2 y3 y4 y5 y6 y7 y8 y9)) ∧ (∀ y0 y1 y2 y3 y4 y5 y6 y7 y8 y9 y10, LeO (longcaselaw06_BlockOnce.j1 k y0 y1 y2 y3 y4 y5 y6 y7 y8 y9 y10) (longcaselaw06_BlockOnce.j1 (k + 1) y0 y1 y2 y3 y4 y5 y6 y7 y8 y9 y10))
 | 0 => ⟨fun _ _ _ _ _ _ _ _ _ _ r h => by simp [longcaselaw06_BlockOnce.j0] at h, fun _ _ _ _ _ _ _ _ _ _ _ r h => by simp [longcaselaw06_BlockOnce.j1] at h⟩
 | k + 1 => by
  obtain ⟨ih0, ih1⟩ := longcaselaw06_BlockOnce.mono_l k
  refine ⟨?_, ?_⟩
  ·
   intro y0 y1 y2 y3 y4 y5 y6 y7 y8 y9
   unfold longcaselaw06_BlockOnce.j0
   repeat' first
   | (with_reducible exact ih0 _ _ _ _ _ _ _ _ _ _)
   | (with_reducible exact ih1 _ _ _ _ _ _ _ _ _ _ _)
   | (with_reducible exact LeO.refl _)
   | (with_reducible exact LeO.none _)
   | (with_reducible refine LeO.ite ?_ ?_)
   | (with_reducible refine LeO.bind ?_ (fun _ => ?_))
   | exact ih0 _ _ _ _ _ _ _ _ _ _
   | exact ih1 _ _ _ _ _ _ _ _ _ _ _
   | exact LeO.none _
   | refine LeO.ite ?_ ?_
   | refine LeO.bind ?_ (fun _ => ?_)
  ·
   intro y0 y1 y2 y3 y4 y5 y6 y7 y8 y9 y10
   unfold longcaselaw06_BlockOnce.j1
   repeat' first
   | (with_reducible exact ih0 _ _ _ _ _ _ _ _ _ _)
   | (with_reducible exact ih1 _ _ _ _ _ _ _ _ _ _ _)
   | (with_reducible exact LeO.refl _)
   | (with_reducible exact LeO.none _)
   | (with_reducible refine LeO.ite ?_ ?_)
   | (with_reducible refine LeO.bind ?_ (fun _ => ?_))
   | exact ih0 _ _ _ _ _ _ _ _ _ _
   | exact ih1 _ _ _ _ _ _ _ _ _ _ _
   | exact LeO.none _
   | refine LeO.ite ?_ ?_
   | refine LeO.bind ?_ (fun _ => ?_)
theorem longcaselaw06_BlockOnce.mono : ∀ a0 a1 a2 a3 a4 a5 a6 a7 a8 k, LeO (longcaselaw06_BlockOnce.f k a0 a1 a2 a3 a4 a5 a6 a7 a8) (longcaselaw06_BlockOnce.f (k + 1) a0 a1 a2 a3 a4 a5 a6 a7 a8) := by
 intro a0 a1 a2 a3 a4 a5 a6 a7 a8 k
 obtain ⟨ih0, ih1⟩ := longcaselaw06_BlockOnce.mono_l k
 unfold longcaselaw06_BlockOnce.f
 repeat' first
   | (with_reducible exact ih0 _ _ _ _ _ _ _ _ _ _)
   | (with_reducible exact ih1 _ _ _ _ _ _ _ _ _ _ _)
   | (with_reducible exact LeO.refl _)
   | (with_reducible exact LeO.none _)
   | (with_reducible refine LeO.ite ?_ ?_)
   | (with_reducible refine LeO.bind ?_ (fun _ => ?_))
   | exact ih0 _ _ _ _ _ _ _ _ _ _
   | exact ih1 _ _ _ _ _ _ _ _ _ _ _
   | exact LeO.none _
   | refine LeO.ite ?_ ?_
   | refine LeO.bind ?_ (fun _ => ?_)
def longcaselaw06_BlockOnce.T13 : Bool × List (List Nat × List Nat) := (true, [([], []), ([0], [0]), ([1], [1]), ([2, 1], [1, 2]), ([1, 3], [1, 3]), ([4, 1], [4]), ([5], [5]), ([6, 5], [5, 6]), ([5, 7], [5, 7]), ([8, 5], [8]), ([9], [9]), ([10, 9, 9], [9, 10]), ([9], [9]), ([12, 11, 9], [9, 12]), ([11, 13, 13, 9], [9, 11, 13]), ([9, 14], [9, 14]), ([15, 14], [15]), ([16], [16]), ([17, 16], [16, 17]), ([16], [16]), ([19, 16], [16, 19]), ([18, 20, 16], [16, 18, 20]), ([16, 21], [16, 21]), ([22, 16], [22]), ([23], [23]), ([24, 23], [23, 24]), ([23], [23]), ([26, 23], [23, 26]), ([25, 27, 23], [23, 25, 27]), ([23, 28], [23, 28]), ([29, 23], [29]), ([30], [30]), ([31, 30], [30, 31]), ([30], [30]), ([33, 30], [30, 33]), ([32, 34, 30], [30, 32, 34]), ([30, 35], [30, 35]), ([36, 30, 0, 1, 2, 3, 4, 5, 6, 7, 8, 9, 10, 11, 12, 13, 14, 15, 16, 17, 18, 19, 20, 21, 22, 23, 24, 25, 26, 27, 28, 29, 30, 31, 32, 33, 34, 35, 36], [36])])
def longcaselaw06_BlockOnce.B13 : List Nat := [0, 1, 3, 7, 15, 31, 63, 127, 255, 511, 1023, 2047, 1023, 8191, 16383, 32767, 65535, 131071, 262143, 131071, 655359, 2097151, 4194303, 8388607, 16777215, 33554431, 16777215, 83886079, 268435455, 536870911, 1073741823, 2147483647, 4294967295, 2147483647, 10737418239, 34359738367, 68719476735, 137438953471]
theorem longcaselaw06_BlockOnce.tab13 : rtab .any (opsOf Try.f8 13) = longcaselaw06_BlockOnce.T13 := by kernel_rfl
theorem longcaselaw06_BlockOnce.bits13 : waitsOk longcaselaw06_BlockOnce.T13.2 longcaselaw06_BlockOnce.B13 = true := by kernel_rfl
set_option maxHeartbeats 8000000 in
set_option maxRecDepth 100000 in
theorem longcaselaw06_BlockOnce.calls (k : Nat) (A0 : Option Addr) (c0 : Nat) (l0 : List Int) (a1_0 : Int) (a1_1 : Int) (a1_2 : Int) (a1_3 : Int) (a1_4 : Int) (a1_5 : Int) (a1_6 : Int) (a2 : Bool) (r : Bool) (w : World) (hr0 : Kd.C (Kd.int .u8) w A0 l0.length l0) (hc0 : l0.length ≤ c0) (h : longcaselaw06_BlockOnce.f k l0 a1_0 a1_1 a1_2 a1_3 a1_4 a1_5 a1_6 a2 = some r) (hRT : r = true) :
  Calls Try.prog 8 #[.slice A0 l0.length c0, .agg #[.int .i64 a1_0, .int .i64 a1_1, .int .i64 a1_2, .int .i64 a1_3, .int .i64 a1_4, .int .i64 a1_5, .int .i64 a1_6], .bool a2] w fun e w' => e = .returned (.bool r) ∧ Below w.heap.size w w' := by
 have HRT := Aside0.mk hRT
 clear hRT
 have hu35 := Try.underlying35
 have hu27 := Try.underlying27
 have hu31 := Try.underlying31
 have HR0 := Aside0.mk hr0
 have HC0 := Aside0.mk hc0
 clear hr0 hc0
 have HB := Aside0.mk (Below.refl w.heap.size w)
 have H : ((longcaselaw06_shown.f).bind fun t102 => (if 0 ≤ (mn (l0.length : Int) 2000) then (if (mn (l0.length : Int) 2000) ≤ (l0.length : Int) then (if a2 = true then (longcaselaw06_BlockOnce.j0 k (l0.take ((mn (l0.length : Int) 2000) : Int).toNat) t102 8 a1_0 a1_1 a1_2 a1_3 a1_4 a1_5 a1_6) else (longcaselaw06_BlockOnce.j0 k (l0.take ((mn (l0.length : Int) 2000) : Int).toNat) t102 4 a1_0 a1_1 a1_2 a1_3 a1_4 a1_5 a1_6)) else (none)) else (none))) = some r := h
 clear h
 replace H := Option.bind_eq_some_iff.mp H
 obtain ⟨t102, A40, H⟩ := H
 replace H : (if 0 ≤ (mn (l0.length : Int) 2000) then (if (mn (l0.length : Int) 2000) ≤ (l0.length : Int) then (if a2 = true then (longcaselaw06_BlockOnce.j0 k (l0.take ((mn (l0.length : Int) 2000) : Int).toNat) t102 8 a1_0 a1_1 a1_2 a1_3 a1_4 a1_5 a1_6) else (longcaselaw06_BlockOnce.j0 k (l0.take ((mn (l0.length : Int) 2000) : Int).toNat) t102 4 a1_0 a1_1 a1_2 a1_3 a1_4 a1_5 a1_6)) else (none)) else (none)) = some r := H
 have A4 := Aside0.mk A40
 clear A40
 obtain ⟨ji5, hji5⟩ : ∃ j_ : Int, (mn (l0.length : Int) 2000) = j_ := ⟨_, rfl⟩
 replace H : (if 0 ≤ (ji5) then (if (ji5) ≤ (l0.length : Int) then (if a2 = true then (longcaselaw06_BlockOnce.j0 k (l0.take ((ji5) : Int).toNat) t102 8 a1_0 a1_1 a1_2 a1_3 a1_4 a1_5 a1_6) else (longcaselaw06_BlockOnce.j0 k (l0.take ((ji5) : Int).toNat) t102 4 a1_0 a1_1 a1_2 a1_3 a1_4 a1_5 a1_6)) else (none)) else (none)) = some r := by first | (rw [hji5] at H; exact H) | (simp only [hji5] at H ⊢; exact H)
 (try rw [hji5] at A4)
 (try (have hji5h : ji5 ≤ 2000 := by (rw [← hji5]; unfold mn; (repeat' split) <;> omega)))
 (try (have hji5g : ji5 ≤ 64 := by omega))
 (try (have hji5l : 0 ≤ ji5 := by (rw [← hji5]; unfold mn; (repeat' split) <;> omega)))
 (try (have hji5m : 0 ≤ ji5 := by omega))
 have hji5_ : (if 2000 < (l0.length : Int) then 2000 else (l0.length : Int)) = ji5 := hji5
 by_cases c6 : 0 ≤ (ji5)
 ·
  rw [if_pos c6] at H
  have c6b0 := eq_true c6
  have c6b1 : decide (0 ≤ (ji5)) = true := decide_eq_true c6
  clear c6
  by_cases c7 : (ji5) ≤ (l0.length : Int)
  ·
   rw [if_pos c7] at H
   have c7b0 := eq_true c7
   have c7b1 : decide ((ji5) ≤ (l0.length : Int)) = true := decide_eq_true c7
   clear c7
   have HC8 := Aside0.mk H
   clear H
   go_enter Try.func8, Try.ntmps8
   go_upto_if 22 with (first | ((with_reducible refine gate_dst (N := 4) rfl ?_); refine box_event ?hg (N := 4) ?hd (cs := #[.int .i64 a1_0, .int .i64 a1_1, .int .i64 a1_2, .int .i64 a1_3, .int .i64 a1_4, .int .i64 a1_5, .int .i64 a1_6]) (t := 35) ?hr ?_; (case hd => rfl); (case hg => rfl); (case hr => first | (go_simp; done) | (go_simp; rfl)); intro gb101 hg w9 hbox hb; have n0_ := Aside0.mk (below_step (by repeat (first | (with_reducible first | exact HB.out | apply below_alloc | apply pw_below_drewN | apply below_drew1) | exact HB.out)) hb); have n1_ := Aside0.mk (hbox); have n2_ := Aside0.mk ((by rw [hg]; exact (below_size (by repeat (first | (with_reducible first | exact HB.out | apply below_alloc | apply pw_below_drewN | apply below_drew1) | exact HB.out))) : w.heap.size ≤ gb101)); have n3_ := Aside0.mk ((by rw [hg]; exact (below_size (by repeat (first | (with_reducible first | exact HB.out | apply below_alloc | apply pw_below_drewN | apply below_drew1) | exact HB.out))) : w.heap.size ≤ gb101)); clear HB; have HB := n0_; have BK101 := n1_; have GW101 := n2_; have GE101 := n3_; clear n0_ n1_ n2_ n3_; clear hb hbox hg) | ((with_reducible refine gate_callee (f := 11) rfl ?_); refine goesL_ (some 16) rfl rfl Try.func11 (by kernel_rfl) rfl #[] rfl (by (try simp only [List.map_toArray, List.map_cons, List.map_nil]); first | done | rfl | (simp only [List.length_drop, List.length_take]; rfl)) ?_; (with_reducible refine (longcaselaw06_shown.calls  t102 _ A4.out).mono ?_); rintro e w10 ⟨rfl, hb⟩; refine ⟨_, rfl, ?_⟩; have n0_ := Aside0.mk (blk_below (g := gb101) (o := .cells #[.int .i64 a1_0, .int .i64 a1_1, .int .i64 a1_2, .int .i64 a1_3, .int .i64 a1_4, .int .i64 a1_5, .int .i64 a1_6] 35 (0, 0)) (by (with_reducible repeat (first | refine blk_drewN ?_ _ | refine blk_drew ?_ | refine blk_alloc ?_ _)); exact BK101.out) hb); have n1_ := Aside0.mk (below_step (by repeat (first | (with_reducible first | exact HB.out | apply below_alloc | apply pw_below_drewN | apply below_drew1 | refine below_set ?_ GE101.out) | exact HB.out)) hb); clear BK101; clear HB; have BK101 := n0_; have HB := n1_; clear n0_ n1_; (try clear hb); (try clear hb2); (try clear hk); (try clear hi); obtain ⟨i011, hi011, _, hsz11, _⟩ := info_parts info5; obtain ⟨hcut11, hA11, hC11⟩ := print_take_of (P := Try.prog) (Value.int .u8) 0 33 5 .i64 Try.underlying33 hi011 hsz11 A0 c0 l0 (ji5) (of_decide_eq_true (by first | (with_reducible assumption) | assumption)) (of_decide_eq_true (by first | (with_reducible assumption) | assumption)) HC0.out; have HR103 := Aside0.mk (Kd.C_of_reads (h1 := fun _ => rfl) (hA11 _ (Kd.reads_of_C HR0.out))); have HC103 := Aside0.mk hC11; clear hA11 hC11 hi011 hsz11))
   (try simp only [Act.put, List.setIfInBounds_toArray, List.set_cons_zero, List.set_cons_succ])
   go_cut [8] (fun v8 wc => ∃ (kq : Nat) (x8_7 : Int), v8 = .int .i64 x8_7 ∧ Aside0 (longcaselaw06_BlockOnce.j0 kq (l0.take ((ji5) : Int).toNat) t102 x8_7 a1_0 a1_1 a1_2 a1_3 a1_4 a1_5 a1_6 = some r) ∧ Aside0 (kq ≤ k) ∧ Aside0 (wc.heap[gb101]? = some (.cells #[.int .i64 a1_0, .int .i64 a1_1, .int .i64 a1_2, .int .i64 a1_3, .int .i64 a1_4, .int .i64 a1_5, .int .i64 a1_6] 35 (0, 0))) ∧ Aside0 (Below w.heap.size w wc))
   case first =>
    have H := HC8.out
    clear HC8
    by_cases c12 : a2 = true
    ·
     subst c12
     have H1 : (longcaselaw06_BlockOnce.j0 k (l0.take ((ji5) : Int).toNat) t102 8 a1_0 a1_1 a1_2 a1_3 a1_4 a1_5 a1_6) = some r := by rw [if_pos rfl] at H; exact H
     clear H
     have H := H1
     clear H1
     have H' := Aside0.mk H
     clear H
     go_wp2
     go_meet
     case rel => exact ⟨_, (8), (by first | rfl | (simp; done) | (simp [*]; done)), H', ⟨by first | omega | exact Nat.le_refl _⟩, ⟨by (with_reducible repeat (first | refine blk_drewN ?_ _ | refine blk_drew ?_ | refine blk_alloc ?_ _)); exact BK101.out⟩, ⟨by repeat (first | (with_reducible first | exact HB.out | apply below_alloc | apply pw_below_drewN | apply below_drew1 | refine below_set ?_ GE101.out) | exact HB.out)⟩⟩
    ·
     replace c12 := Bool.eq_false_iff.mpr c12
     subst c12
     have H1 : (longcaselaw06_BlockOnce.j0 k (l0.take ((ji5) : Int).toNat) t102 4 a1_0 a1_1 a1_2 a1_3 a1_4 a1_5 a1_6) = some r := by rw [if_neg (show ¬ (false = true) by decide)] at H; exact H
     clear H
     have H := H1
     clear H1
     have H' := Aside0.mk H
     clear H
     go_wp2
     go_meet
     case rel => exact ⟨_, (4), (by first | rfl | (simp; done) | (simp [*]; done)), H', ⟨by first | omega | exact Nat.le_refl _⟩, ⟨by (with_reducible repeat (first | refine blk_drewN ?_ _ | refine blk_drew ?_ | refine blk_alloc ?_ _)); exact BK101.out⟩, ⟨by repeat (first | (with_reducible first | exact HB.out | apply below_alloc | apply pw_below_drewN | apply below_drew1 | refine below_set ?_ GE101.out) | exact HB.out)⟩⟩
   case rest =>
    clear HC8
    try clear c1
    try clear p2
    try clear c6
    try clear c6b0
    try clear c6b1
    try clear c7
    try clear c7b0
    try clear c7b1
    try clear c8
    try clear c11
    try clear c12
    obtain ⟨kq, x8_7, rfl, HA, HJ7, BK101, HB⟩ := hcut
    cases kq with
    | zero => exact absurd HA.out (by simp [longcaselaw06_BlockOnce.j0])
    | succ kj7 =>
     have H := HA.out
     clear HA
     simp only [longcaselaw06_BlockOnce.j0] at H
     have HC13 := Aside0.mk H
     clear H
     go_upto_region 6 with (fail)
     go_cut [30] (fun v30 wc => ∃ (kq : Nat) (x30_12 : Bool), v30 = .bool x30_12 ∧ Aside0 (longcaselaw06_BlockOnce.j1 kq (l0.take ((ji5) : Int).toNat) t102 x8_7 x30_12 a1_0 a1_1 a1_2 a1_3 a1_4 a1_5 a1_6 = some r) ∧ Aside0 (kq ≤ kj7) ∧ Aside0 (wc.heap[gb101]? = some (.cells #[.int .i64 a1_0, .int .i64 a1_1, .int .i64 a1_2, .int .i64 a1_3, .int .i64 a1_4, .int .i64 a1_5, .int .i64 a1_6] 35 (0, 0))) ∧ Aside0 (Below w.heap.size w wc))
     case first =>
      have H := HC13.out
      clear HC13
      by_cases c14 : a1_4 > 60
      ·
       rw [if_pos c14] at H
       have c14b0 : decide (60 < a1_4) = true := decide_eq_true c14
       clear c14
       (first | rw [c14b0] | rw [c14b1] | (simp only [i64_w, i32_w]; rw [c14b0]) | skip)
       have H' := Aside0.mk H
       clear H
       have hcz15_0 : wc.cell? ⟨gb101, 0, none⟩ = some (.int .i64 a1_0) := (blk_cell BK101.out 0).trans rfl
       have hcz15_1 : wc.cell? ⟨gb101, 1, none⟩ = some (.int .i64 a1_1) := (blk_cell BK101.out 1).trans rfl
       have hcz15_2 : wc.cell? ⟨gb101, 2, none⟩ = some (.int .i64 a1_2) := (blk_cell BK101.out 2).trans rfl
       have hcz15_3 : wc.cell? ⟨gb101, 3, none⟩ = some (.int .i64 a1_3) := (blk_cell BK101.out 3).trans rfl
       have hcz15_4 : wc.cell? ⟨gb101, 4, none⟩ = some (.int .i64 a1_4) := (blk_cell BK101.out 4).trans rfl
       have hcz15_5 : wc.cell? ⟨gb101, 5, none⟩ = some (.int .i64 a1_5) := (blk_cell BK101.out 5).trans rfl
       have hcz15_6 : wc.cell? ⟨gb101, 6, none⟩ = some (.int .i64 a1_6) := (blk_cell BK101.out 6).trans rfl
       have hfz15_0 := blk_frozen BK101.out 0
       have hfz15_1 := blk_frozen BK101.out 1
       have hfz15_2 := blk_frozen BK101.out 2
       have hfz15_3 := blk_frozen BK101.out 3
       have hfz15_4 := blk_frozen BK101.out 4
       have hfz15_5 := blk_frozen BK101.out 5
       have hfz15_6 := blk_frozen BK101.out 6
       go_wp2
       go_meet
       case rel => exact ⟨_, (true), (by first | rfl | (simp; done) | (simp [*]; done)), H', ⟨by have := HJ7.out; first | omega | exact Nat.le_refl _⟩, ⟨by (with_reducible repeat (first | refine blk_drewN ?_ _ | refine blk_drew ?_ | refine blk_alloc ?_ _)); exact BK101.out⟩, ⟨by repeat (first | (with_reducible first | exact HB.out | apply below_alloc | apply pw_below_drewN | apply below_drew1 | refine below_set ?_ GE101.out) | exact HB.out)⟩⟩
      ·
       rw [if_neg c14] at H
       have c14b0 : decide (60 < a1_4) = false := decide_eq_false c14
       clear c14
       (first | rw [c14b0] | rw [c14b1] | (simp only [i64_w, i32_w]; rw [c14b0]) | skip)
       have H' := Aside0.mk H
       clear H
       have hcz16_0 : wc.cell? ⟨gb101, 0, none⟩ = some (.int .i64 a1_0) := (blk_cell BK101.out 0).trans rfl
       have hcz16_1 : wc.cell? ⟨gb101, 1, none⟩ = some (.int .i64 a1_1) := (blk_cell BK101.out 1).trans rfl
       have hcz16_2 : wc.cell? ⟨gb101, 2, none⟩ = some (.int .i64 a1_2) := (blk_cell BK101.out 2).trans rfl
       have hcz16_3 : wc.cell? ⟨gb101, 3, none⟩ = some (.int .i64 a1_3) := (blk_cell BK101.out 3).trans rfl
       have hcz16_4 : wc.cell? ⟨gb101, 4, none⟩ = some (.int .i64 a1_4) := (blk_cell BK101.out 4).trans rfl
       have hcz16_5 : wc.cell? ⟨gb101, 5, none⟩ = some (.int .i64 a1_5) := (blk_cell BK101.out 5).trans rfl
       have hcz16_6 : wc.cell? ⟨gb101, 6, none⟩ = some (.int .i64 a1_6) := (blk_cell BK101.out 6).trans rfl
       have hfz16_0 := blk_frozen BK101.out 0
       have hfz16_1 := blk_frozen BK101.out 1
       have hfz16_2 := blk_frozen BK101.out 2
       have hfz16_3 := blk_frozen BK101.out 3
       have hfz16_4 := blk_frozen BK101.out 4
       have hfz16_5 := blk_frozen BK101.out 5
       have hfz16_6 := blk_frozen BK101.out 6
       go_wp2
       go_meet
       case rel => exact ⟨_, (decide (a1_3 > 60)), (by first | rfl | (simp; done) | (simp [*]; done)), H', ⟨by have := HJ7.out; first | omega | exact Nat.le_refl _⟩, ⟨by (with_reducible repeat (first | refine blk_drewN ?_ _ | refine blk_drew ?_ | refine blk_alloc ?_ _)); exact BK101.out⟩, ⟨by repeat (first | (with_reducible first | exact HB.out | apply below_alloc | apply pw_below_drewN | apply below_drew1 | refine below_set ?_ GE101.out) | exact HB.out)⟩⟩
     case rest =>
      clear HC13
      try clear c1
      try clear p2
      try clear c6
      try clear c6b0
      try clear c6b1
      try clear c7
      try clear c7b0
      try clear c7b1
      try clear c8
      try clear c11
      try clear c12
      try clear c14
      try clear c14b0
      try clear hcz15_0
      try clear hcz15_1
      try clear hcz15_2
      try clear hcz15_3
      try clear hcz15_4
      try clear hcz15_5
      try clear hcz15_6
      try clear hcz16_0
      try clear hcz16_1
      try clear hcz16_2
      try clear hcz16_3
      try clear hcz16_4
      try clear hcz16_5
      try clear hcz16_6
      try clear hfz15_0
      try clear hfz15_1
      try clear hfz15_2
      try clear hfz15_3
      try clear hfz15_4
      try clear hfz15_5
      try clear hfz15_6
      try clear hfz16_0
      try clear hfz16_1
      try clear hfz16_2
      try clear hfz16_3
      try clear hfz16_4
      try clear hfz16_5
      try clear hfz16_6
      try clear p2
      obtain ⟨kq, x30_12, rfl, HA, HJ12, BK101, HB⟩ := hcut
      cases kq with
      | zero => exact absurd HA.out (by simp [longcaselaw06_BlockOnce.j1])
      | succ kj12 =>
       have H := HA.out
       clear HA
       simp only [longcaselaw06_BlockOnce.j1] at H
       by_cases c17 : x30_12 = true
       ·
        subst c17
        have H1 : (some t102) = some r := by rw [if_pos rfl] at H; exact H
        clear H
        have H := H1
        clear H1
        obtain rfl := Option.some.inj H
        go_wp2
        go_ret
        exact ⟨by first | rfl | (simp [errW_none, errW_some] <;> rfl) | (simp only [← hji5]; first | rfl | (simp [errW_none, errW_some] <;> rfl)) | (simp [*, errW_none, errW_some] <;> rfl), by repeat (first | (with_reducible first | exact HB.out | apply below_alloc | apply pw_below_drewN | apply below_drew1 | refine below_set ?_ GE101.out) | exact HB.out)⟩
       ·
        replace c17 := Bool.eq_false_iff.mpr c17
        subst c17
        have H1 : ((block_Decode.f (l0.take ((ji5) : Int).toNat) a1_0 a1_1 a1_2 a1_3 a1_4 a1_5 a1_6 x8_7).bind fun bt104 => (if bt104.2.2.2.2.2 = 0 then ((block_Encode.f bt104.1 bt104.2.1 bt104.2.2.1 bt104.2.2.2.1 bt104.2.2.2.2.1 x8_7 a1_0).bind fun bt137 => ((block_Decode.f bt137.1 bt137.2.1 bt137.2.2.1 bt137.2.2.2.1 bt137.2.2.2.2.1 bt137.2.2.2.2.2.1 bt137.2.2.2.2.2.2.1 bt137.2.2.2.2.2.2.2.1 x8_7).bind fun bt149 => (if t102 = true then (if bt137.2.2.2.2.2.2.2.2 = 0 then (if bt149.2.2.2.2.2 = 0 then ((longcaselaw06_ref.f bt104.1 bt104.2.1 bt104.2.2.1 bt104.2.2.2.1 bt104.2.2.2.2.1).bind fun bt166 => ((longcaselaw06_ref.f bt149.1 bt149.2.1 bt149.2.2.1 bt149.2.2.2.1 bt149.2.2.2.2.1).bind fun bt181 => ((longcaseref06_Same.f bt166.1 bt166.2.1 bt166.2.2.1 bt166.2.2.2.1 bt166.2.2.2.2 bt181.1 bt181.2.1 bt181.2.2.1 bt181.2.2.2.1 bt181.2.2.2.2).bind fun t196 => (if t196 = true then (if bt137.2.2.2.2.2.1 = a1_4 then (if bt137.2.2.2.2.2.2.1 = a1_5 then (some (bt137.2.2.2.2.1 == a1_3)) else (some false)) else (some false)) else (some false))))) else (some false)) else (some false)) else (some false)))) else (if t102 = true then ((longcaselaw06_ref.f bt104.1 bt104.2.1 bt104.2.2.1 bt104.2.2.2.1 bt104.2.2.2.2.1).bind fun bt121 => ((longcaseref06_Same.f bt121.1 bt121.2.1 bt121.2.2.1 bt121.2.2.2.1 bt121.2.2.2.2 ([] : List (S56)) ([] : List (S54)) ([] : List (S67)) ([] : List Bool) ([] : List Bool)).bind fun t136 => (some t136))) else (some false)))) = some r := by rw [if_neg (show ¬ (false = true) by decide)] at H; exact H
        clear H
        have H := H1
        clear H1
        replace H := Option.bind_eq_some_iff.mp H
        obtain ⟨⟨t104, t107, t110, t113, t116, t119⟩, A180, H⟩ := H
        replace H : (if t119 = 0 then ((block_Encode.f t104 t107 t110 t113 t116 x8_7 a1_0).bind fun bt137 => ((block_Decode.f bt137.1 bt137.2.1 bt137.2.2.1 bt137.2.2.2.1 bt137.2.2.2.2.1 bt137.2.2.2.2.2.1 bt137.2.2.2.2.2.2.1 bt137.2.2.2.2.2.2.2.1 x8_7).bind fun bt149 => (if t102 = true then (if bt137.2.2.2.2.2.2.2.2 = 0 then (if bt149.2.2.2.2.2 = 0 then ((longcaselaw06_ref.f t104 t107 t110 t113 t116).bind fun bt166 => ((longcaselaw06_ref.f bt149.1 bt149.2.1 bt149.2.2.1 bt149.2.2.2.1 bt149.2.2.2.2.1).bind fun bt181 => ((longcaseref06_Same.f bt166.1 bt166.2.1 bt166.2.2.1 bt166.2.2.2.1 bt166.2.2.2.2 bt181.1 bt181.2.1 bt181.2.2.1 bt181.2.2.2.1 bt181.2.2.2.2).bind fun t196 => (if t196 = true then (if bt137.2.2.2.2.2.1 = a1_4 then (if bt137.2.2.2.2.2.2.1 = a1_5 then (some (bt137.2.2.2.2.1 == a1_3)) else (some false)) else (some false)) else (some false))))) else (some false)) else (some false)) else (some false)))) else (if t102 = true then ((longcaselaw06_ref.f t104 t107 t110 t113 t116).bind fun bt121 => ((longcaseref06_Same.f bt121.1 bt121.2.1 bt121.2.2.1 bt121.2.2.2.1 bt121.2.2.2.2 ([] : List (S56)) ([] : List (S54)) ([] : List (S67)) ([] : List Bool) ([] : List Bool)).bind fun t136 => (some t136))) else (some false))) = some r := H
        have A18 := Aside0.mk A180
        clear A180
        by_cases c19 : t119 = 0
        ·
         rw [if_pos c19] at H
         have c19b0 : (t119 == 0) = true := beq_iff_eq.mpr c19
         have c19b1 : (t119 != 0) = false := bne_eq_false_iff_eq.mpr c19
         clear c19
         replace H := Option.bind_eq_some_iff.mp H
         obtain ⟨⟨t137, t140, t141, t142, t143, t144, t145, t146, t147⟩, A200, H⟩ := H
         replace H : ((block_Decode.f t137 t140 t141 t142 t143 t144 t145 t146 x8_7).bind fun bt149 => (if t102 = true then (if t147 = 0 then (if bt149.2.2.2.2.2 = 0 then ((longcaselaw06_ref.f t104 t107 t110 t113 t116).bind fun bt166 => ((longcaselaw06_ref.f bt149.1 bt149.2.1 bt149.2.2.1 bt149.2.2.2.1 bt149.2.2.2.2.1).bind fun bt181 => ((longcaseref06_Same.f bt166.1 bt166.2.1 bt166.2.2.1 bt166.2.2.2.1 bt166.2.2.2.2 bt181.1 bt181.2.1 bt181.2.2.1 bt181.2.2.2.1 bt181.2.2.2.2).bind fun t196 => (if t196 = true then (if t144 = a1_4 then (if t145 = a1_5 then (some (t143 == a1_3)) else (some false)) else (some false)) else (some false))))) else (some false)) else (some false)) else (some false))) = some r := H
         have A20 := Aside0.mk A200
         clear A200
         replace H := Option.bind_eq_some_iff.mp H
         obtain ⟨⟨t149, t152, t155, t158, t161, t164⟩, A210, H⟩ := H
         replace H : (if t102 = true then (if t147 = 0 then (if t164 = 0 then ((longcaselaw06_ref.f t104 t107 t110 t113 t116).bind fun bt166 => ((longcaselaw06_ref.f t149 t152 t155 t158 t161).bind fun bt181 => ((longcaseref06_Same.f bt166.1 bt166.2.1 bt166.2.2.1 bt166.2.2.2.1 bt166.2.2.2.2 bt181.1 bt181.2.1 bt181.2.2.1 bt181.2.2.2.1 bt181.2.2.2.2).bind fun t196 => (if t196 = true then (if t144 = a1_4 then (if t145 = a1_5 then (some (t143 == a1_3)) else (some false)) else (some false)) else (some false))))) else (some false)) else (some false)) else (some false)) = some r := H
         have A21 := Aside0.mk A210
         clear A210
         by_cases c22 : t102 = true
         ·
          subst c22
          have H1 : (if t147 = 0 then (if t164 = 0 then ((longcaselaw06_ref.f t104 t107 t110 t113 t116).bind fun bt166 => ((longcaselaw06_ref.f t149 t152 t155 t158 t161).bind fun bt181 => ((longcaseref06_Same.f bt166.1 bt166.2.1 bt166.2.2.1 bt166.2.2.2.1 bt166.2.2.2.2 bt181.1 bt181.2.1 bt181.2.2.1 bt181.2.2.2.1 bt181.2.2.2.2).bind fun t196 => (if t196 = true then (if t144 = a1_4 then (if t145 = a1_5 then (some (t143 == a1_3)) else (some false)) else (some false)) else (some false))))) else (some false)) else (some false)) = some r := by rw [if_pos rfl] at H; exact H
          clear H
          have H := H1
          clear H1
          by_cases c23 : t147 = 0
          ·
           rw [if_pos c23] at H
           have c23b0 : (t147 == 0) = true := beq_iff_eq.mpr c23
           have c23b1 : (t147 != 0) = false := bne_eq_false_iff_eq.mpr c23
           clear c23
           by_cases c24 : t164 = 0
           ·
            rw [if_pos c24] at H
            have c24b0 : (t164 == 0) = true := beq_iff_eq.mpr c24
            have c24b1 : (t164 != 0) = false := bne_eq_false_iff_eq.mpr c24
            clear c24
            replace H := Option.bind_eq_some_iff.mp H
            obtain ⟨⟨t166, t169, t172, t175, t178⟩, A250, H⟩ := H
            replace H : ((longcaselaw06_ref.f t149 t152 t155 t158 t161).bind fun bt181 => ((longcaseref06_Same.f t166 t169 t172 t175 t178 bt181.1 bt181.2.1 bt181.2.2.1 bt181.2.2.2.1 bt181.2.2.2.2).bind fun t196 => (if t196 = true then (if t144 = a1_4 then (if t145 = a1_5 then (some (t143 == a1_3)) else (some false)) else (some false)) else (some false)))) = some r := H
            have A25 := Aside0.mk A250
            clear A250
            replace H := Option.bind_eq_some_iff.mp H
            obtain ⟨⟨t181, t184, t187, t190, t193⟩, A260, H⟩ := H
            replace H : ((longcaseref06_Same.f t166 t169 t172 t175 t178 t181 t184 t187 t190 t193).bind fun t196 => (if t196 = true then (if t144 = a1_4 then (if t145 = a1_5 then (some (t143 == a1_3)) else (some false)) else (some false)) else (some false))) = some r := H
            have A26 := Aside0.mk A260
            clear A260
            replace H := Option.bind_eq_some_iff.mp H
            obtain ⟨t196, A270, H⟩ := H
            replace H : (if t196 = true then (if t144 = a1_4 then (if t145 = a1_5 then (some (t143 == a1_3)) else (some false)) else (some false)) else (some false)) = some r := H
            have A27 := Aside0.mk A270
            clear A270
            by_cases c28 : t196 = true
            ·
             subst c28
             have H1 : (if t144 = a1_4 then (if t145 = a1_5 then (some (t143 == a1_3)) else (some false)) else (some false)) = some r := by rw [if_pos rfl] at H; exact H
             clear H
             have H := H1
             clear H1
             by_cases c29 : t144 = a1_4
             ·
              rw [if_pos c29] at H
              have c29b0 : (t144 == a1_4) = true := beq_iff_eq.mpr c29
              have c29b1 : (t144 != a1_4) = false := bne_eq_false_iff_eq.mpr c29
              clear c29
              by_cases c30 : t145 = a1_5
              ·
               rw [if_pos c30] at H
               have c30b0 : (t145 == a1_5) = true := beq_iff_eq.mpr c30
               have c30b1 : (t145 != a1_5) = false := bne_eq_false_iff_eq.mpr c30
               clear c30
               obtain rfl := Option.some.inj H
               have hcz31_0 : wc.cell? ⟨gb101, 0, none⟩ = some (.int .i64 a1_0) := (blk_cell BK101.out 0).trans rfl
               have hcz31_1 : wc.cell? ⟨gb101, 1, none⟩ = some (.int .i64 a1_1) := (blk_cell BK101.out 1).trans rfl
               have hcz31_2 : wc.cell? ⟨gb101, 2, none⟩ = some (.int .i64 a1_2) := (blk_cell BK101.out 2).trans rfl
               have hcz31_3 : wc.cell? ⟨gb101, 3, none⟩ = some (.int .i64 a1_3) := (blk_cell BK101.out 3).trans rfl
               have hcz31_4 : wc.cell? ⟨gb101, 4, none⟩ = some (.int .i64 a1_4) := (blk_cell BK101.out 4).trans rfl
               have hcz31_5 : wc.cell? ⟨gb101, 5, none⟩ = some (.int .i64 a1_5) := (blk_cell BK101.out 5).trans rfl
               have hcz31_6 : wc.cell? ⟨gb101, 6, none⟩ = some (.int .i64 a1_6) := (blk_cell BK101.out 6).trans rfl
               have hfz31_0 := blk_frozen BK101.out 0
               have hfz31_1 := blk_frozen BK101.out 1
               have hfz31_2 := blk_frozen BK101.out 2
               have hfz31_3 := blk_frozen BK101.out 3
               have hfz31_4 := blk_frozen BK101.out 4
               have hfz31_5 := blk_frozen BK101.out 5
               have hfz31_6 := blk_frozen BK101.out 6
               try go_wp2_with (first | ((with_reducible refine gate_callee (f := 21) rfl ?_); refine goesL_ (some 36) rfl rfl Try.func21 (by kernel_rfl) rfl #[.slice A0 (l0.take ((ji5) : Int).toNat).length c0, .agg #[.int .i64 a1_0, .int .i64 a1_1, .int .i64 a1_2, .int .i64 a1_3, .int .i64 a1_4, .int .i64 a1_5, .int .i64 a1_6], .int .i64 x8_7] rfl (by (try simp only [List.map_toArray, List.map_cons, List.map_nil]); first | done | (rw [show (l0.take ((ji5) : Int).toNat).length = (ji5).toNat from (by rw [List.length_take]; first | (have h_ : ((ji5) : Int) ≤ (l0.length : Int) := of_decide_eq_true (by first | (with_reducible assumption) | assumption); omega) | (have h_ := hji5_; (repeat' split at h_) <;> omega))] <;> rfl) | (simp only [hji5]; rfl) | rfl | (simp only [List.length_drop, List.length_take]; rfl)) ?_; (with_reducible refine (block_Decode.calls _ _ (l0.take ((ji5) : Int).toNat) a1_0 a1_1 a1_2 a1_3 a1_4 a1_5 a1_6 x8_7 t104 t107 t110 t113 t116 t119 _ ?side1 ?side2 A18.out).mono ?_); (case side1 => repeat (first | exact (Kd.C_below HR103.out HB.out) | (with_reducible refine Kd.C_alloc ?_ _) | (with_reducible refine Kd.C_drewN ?_ _) | (with_reducible refine Kd.C_drew ?_))); (case side2 => exact HC103.out); rintro e w32 ⟨v105, v108, v111, v114, v117, rfl, ho0, ho1, ho2, ho3, ho4, hb⟩; refine ⟨_, rfl, ?_⟩; have n0_ := Aside0.mk (Kd.R_lower ho0 (below_size (by repeat (first | (with_reducible first | exact HB.out | apply below_alloc | apply pw_below_drewN | apply below_drew1 | refine below_set ?_ GE101.out) | exact HB.out)))); have n1_ := Aside0.mk (Kd.R_lower ho1 (below_size (by repeat (first | (with_reducible first | exact HB.out | apply below_alloc | apply pw_below_drewN | apply below_drew1 | refine below_set ?_ GE101.out) | exact HB.out)))); have n2_ := Aside0.mk (Kd.R_lower ho2 (below_size (by repeat (first | (with_reducible first | exact HB.out | apply below_alloc | apply pw_below_drewN | apply below_drew1 | refine below_set ?_ GE101.out) | exact HB.out)))); have n3_ := Aside0.mk (Kd.R_lower ho3 (below_size (by repeat (first | (with_reducible first | exact HB.out | apply below_alloc | apply pw_below_drewN | apply below_drew1 | refine below_set ?_ GE101.out) | exact HB.out)))); have n4_ := Aside0.mk (Kd.R_lower ho4 (below_size (by repeat (first | (with_reducible first | exact HB.out | apply below_alloc | apply pw_below_drewN | apply below_drew1 | refine below_set ?_ GE101.out) | exact HB.out)))); have n5_ := Aside0.mk (blk_below (g := gb101) (o := .cells #[.int .i64 a1_0, .int .i64 a1_1, .int .i64 a1_2, .int .i64 a1_3, .int .i64 a1_4, .int .i64 a1_5, .int .i64 a1_6] 35 (0, 0)) (by (with_reducible repeat (first | refine blk_drewN ?_ _ | refine blk_drew ?_ | refine blk_alloc ?_ _)); exact BK101.out) hb); have n6_ := Aside0.mk (below_step (by repeat (first | (with_reducible first | exact HB.out | apply below_alloc | apply pw_below_drewN | apply below_drew1 | refine below_set ?_ GE101.out) | exact HB.out)) hb); clear BK101; clear HB; have HO106 := n0_; have HO109 := n1_; have HO112 := n2_; have HO115 := n3_; have HO118 := n4_; have BK101 := n5_; have HB := n6_; clear n0_ n1_ n2_ n3_ n4_ n5_ n6_; (try clear hb); (try clear hb2); (try clear hk); (try clear hi); (try clear ho0); (try clear ho1); (try clear ho2); (try clear ho3); (try clear ho4)) | ((with_reducible refine gate_dst (N := 9) rfl ?_); refine box_event ?hg (N := 9) ?hd (cs := #[.slice none 0 0, .slice none 0 0, .slice none 0 0, .slice none 0 0, .slice none 0 0]) (t := 27) ?hr ?_; (case hd => rfl); (case hg => rfl); (case hr => first | (go_simp; done) | (go_simp; rfl)); intro gb120 hg w33 hbox hb; have n0_ := Aside0.mk (Kd.R_below (by (with_reducible repeat (first | apply Kd.R_alloc | apply Kd.R_drewN | apply Kd.R_drew)); exact HO106.out) hb); have n1_ := Aside0.mk (Kd.R_below (by (with_reducible repeat (first | apply Kd.R_alloc | apply Kd.R_drewN | apply Kd.R_drew)); exact HO109.out) hb); have n2_ := Aside0.mk (Kd.R_below (by (with_reducible repeat (first | apply Kd.R_alloc | apply Kd.R_drewN | apply Kd.R_drew)); exact HO112.out) hb); have n3_ := Aside0.mk (Kd.R_below (by (with_reducible repeat (first | apply Kd.R_alloc | apply Kd.R_drewN | apply Kd.R_drew)); exact HO115.out) hb); have n4_ := Aside0.mk (Kd.R_below (by (with_reducible repeat (first | apply Kd.R_alloc | apply Kd.R_drewN | apply Kd.R_drew)); exact HO118.out) hb); have n5_ := Aside0.mk (blk_below (g := gb101) (o := .cells #[.int .i64 a1_0, .int .i64 a1_1, .int .i64 a1_2, .int .i64 a1_3, .int .i64 a1_4, .int .i64 a1_5, .int .i64 a1_6] 35 (0, 0)) (by (with_reducible repeat (first | refine blk_drewN ?_ _ | refine blk_drew ?_ | refine blk_alloc ?_ _)); exact BK101.out) hb); have n6_ := Aside0.mk (below_step (by repeat (first | (with_reducible first | exact HB.out | apply below_alloc | apply pw_below_drewN | apply below_drew1 | refine below_set ?_ GE101.out) | exact HB.out)) hb); have n7_ := Aside0.mk (hbox); have n8_ := Aside0.mk ((by rw [hg]; exact (below_size (by repeat (first | (with_reducible first | exact HB.out | apply below_alloc | apply pw_below_drewN | apply below_drew1 | refine below_set ?_ GE101.out) | exact HB.out))) : w.heap.size ≤ gb120)); have n9_ := Aside0.mk ((by rw [hg]; exact (below_size (by repeat (first | (with_reducible first | exact HB.out | apply below_alloc | apply pw_below_drewN | apply below_drew1 | refine below_set ?_ GE101.out) | exact HB.out))) : w.heap.size ≤ gb120)); have n10_ := Aside0.mk ((by rw [hg]; exact Nat.ne_of_lt (blk_lt (g := gb101) (o := .cells #[.int .i64 a1_0, .int .i64 a1_1, .int .i64 a1_2, .int .i64 a1_3, .int .i64 a1_4, .int .i64 a1_5, .int .i64 a1_6] 35 (0, 0)) (by (with_reducible repeat (first | refine blk_drewN ?_ _ | refine blk_drew ?_ | refine blk_alloc ?_ _)); exact BK101.out)) : gb101 ≠ gb120)); have n11_ := Aside0.mk ((by rw [hg]; exact Nat.ne_of_gt (blk_lt (g := gb101) (o := .cells #[.int .i64 a1_0, .int .i64 a1_1, .int .i64 a1_2, .int .i64 a1_3, .int .i64 a1_4, .int .i64 a1_5, .int .i64 a1_6] 35 (0, 0)) (by (with_reducible repeat (first | refine blk_drewN ?_ _ | refine blk_drew ?_ | refine blk_alloc ?_ _)); exact BK101.out)) : gb120 ≠ gb101)); clear HO106; clear HO109; clear HO112; clear HO115; clear HO118; clear BK101; clear HB; have HO106 := n0_; have HO109 := n1_; have HO112 := n2_; have HO115 := n3_; have HO118 := n4_; have BK101 := n5_; have HB := n6_; have BK120 := n7_; have GW120 := n8_; have GE120 := n9_; have NB101_120 := n10_; have NB120_101 := n11_; clear n0_ n1_ n2_ n3_ n4_ n5_ n6_ n7_ n8_ n9_ n10_ n11_; clear hb hbox hg; obtain ⟨Ao34, co34, eo34⟩ := Kd.R_slice HO106.out; subst eo34; have hnb35 := NB120_101.out; have hnc35 := NB101_120.out; have hcz36_0 : w33.cell? ⟨gb120, 0, none⟩ = some (.slice none 0 0) := (blk_cell BK120.out 0).trans rfl; have hcz36_1 : w33.cell? ⟨gb120, 1, none⟩ = some (.slice none 0 0) := (blk_cell BK120.out 1).trans rfl; have hcz36_2 : w33.cell? ⟨gb120, 2, none⟩ = some (.slice none 0 0) := (blk_cell BK120.out 2).trans rfl; have hcz36_3 : w33.cell? ⟨gb120, 3, none⟩ = some (.slice none 0 0) := (blk_cell BK120.out 3).trans rfl; have hcz36_4 : w33.cell? ⟨gb120, 4, none⟩ = some (.slice none 0 0) := (blk_cell BK120.out 4).trans rfl; have hfz36_0 := blk_frozen BK120.out 0; have hfz36_1 := blk_frozen BK120.out 1; have hfz36_2 := blk_frozen BK120.out 2; have hfz36_3 := blk_frozen BK120.out 3; have hfz36_4 := blk_frozen BK120.out 4; obtain ⟨Ao37, co37, eo37⟩ := Kd.R_slice HO109.out; subst eo37; obtain ⟨Ao38, co38, eo38⟩ := Kd.R_slice HO112.out; subst eo38; obtain ⟨Ao39, co39, eo39⟩ := Kd.R_slice HO115.out; subst eo39; obtain ⟨Ao40, co40, eo40⟩ := Kd.R_slice HO118.out; subst eo40; have hcz41_0 : w33.cell? ⟨gb101, 0, none⟩ = some (.int .i64 a1_0) := (blk_cell BK101.out 0).trans rfl; have hcz41_1 : w33.cell? ⟨gb101, 1, none⟩ = some (.int .i64 a1_1) := (blk_cell BK101.out 1).trans rfl; have hcz41_2 : w33.cell? ⟨gb101, 2, none⟩ = some (.int .i64 a1_2) := (blk_cell BK101.out 2).trans rfl; have hcz41_3 : w33.cell? ⟨gb101, 3, none⟩ = some (.int .i64 a1_3) := (blk_cell BK101.out 3).trans rfl; have hcz41_4 : w33.cell? ⟨gb101, 4, none⟩ = some (.int .i64 a1_4) := (blk_cell BK101.out 4).trans rfl; have hcz41_5 : w33.cell? ⟨gb101, 5, none⟩ = some (.int .i64 a1_5) := (blk_cell BK101.out 5).trans rfl; have hcz41_6 : w33.cell? ⟨gb101, 6, none⟩ = some (.int .i64 a1_6) := (blk_cell BK101.out 6).trans rfl; have hfz41_0 := blk_frozen BK101.out 0; have hfz41_1 := blk_frozen BK101.out 1; have hfz41_2 := blk_frozen BK101.out 2; have hfz41_3 := blk_frozen BK101.out 3; have hfz41_4 := blk_frozen BK101.out 4; have hfz41_5 := blk_frozen BK101.out 5; have hfz41_6 := blk_frozen BK101.out 6) | ((with_reducible refine gate_callee (f := 15) rfl ?_); refine goesL_ (some 53) rfl rfl Try.func15 (by kernel_rfl) rfl #[.agg #[.slice Ao34 t104.length co34, .slice Ao37 t107.length co37, .slice Ao38 t110.length co38, .slice Ao39 t113.length co39, .slice Ao40 t116.length co40], .int .i64 x8_7, .int .i64 a1_0] rfl (by (try simp only [List.map_toArray, List.map_cons, List.map_nil]); first | done | rfl | (simp only [List.length_drop, List.length_take]; rfl)) ?_; (with_reducible refine (block_Encode.calls _ _ t104 _ _ t107 _ _ t110 _ _ t113 _ _ t116 x8_7 a1_0 t137 t140 t141 t142 t143 t144 t145 t146 t147 _ ?side1 ?side2 ?side3 ?side4 ?side5 ?side6 ?side7 ?side8 ?side9 ?side10 A20.out).mono ?_); (case side1 => refine (Kd.R_reads' (e := 56) (base := w.heap.size) (ok := fun k_ => True) (n := t104.length) (c := co34) ?_).2.2; exact (by (with_reducible repeat (first | apply Kd.R_alloc | apply Kd.R_drewN | apply Kd.R_drew)); exact (Kd.R_mono (Kd.R_far (p := ⟨gb120, 4, none⟩) (Kd.R_far (p := ⟨gb120, 3, none⟩) (Kd.R_far (p := ⟨gb120, 2, none⟩) (Kd.R_far (p := ⟨gb120, 1, none⟩) (Kd.R_far (p := ⟨gb120, 0, none⟩) (Kd.R_types HO106.out BK120.out (by decide)) (fun _ hk => hk.2) (.slice Ao34 t104.length co34)) (fun _ hk => hk.2) (.slice Ao37 t107.length co37)) (fun _ hk => hk.2) (.slice Ao38 t110.length co38)) (fun _ hk => hk.2) (.slice Ao39 t113.length co39)) (fun _ hk => hk.2) (.slice Ao40 t116.length co40)) (fun _ h_ => h_.1)))); (case side2 => exact (Kd.R_reads' HO106.out).2.1); (case side3 => refine (Kd.R_reads' (e := 54) (base := w.heap.size) (ok := fun k_ => True) (n := t107.length) (c := co37) ?_).2.2; exact (by (with_reducible repeat (first | apply Kd.R_alloc | apply Kd.R_drewN | apply Kd.R_drew)); exact (Kd.R_mono (Kd.R_far (p := ⟨gb120, 4, none⟩) (Kd.R_far (p := ⟨gb120, 3, none⟩) (Kd.R_far (p := ⟨gb120, 2, none⟩) (Kd.R_far (p := ⟨gb120, 1, none⟩) (Kd.R_far (p := ⟨gb120, 0, none⟩) (Kd.R_types HO109.out BK120.out (by decide)) (fun _ hk => hk.2) (.slice Ao34 t104.length co34)) (fun _ hk => hk.2) (.slice Ao37 t107.length co37)) (fun _ hk => hk.2) (.slice Ao38 t110.length co38)) (fun _ hk => hk.2) (.slice Ao39 t113.length co39)) (fun _ hk => hk.2) (.slice Ao40 t116.length co40)) (fun _ h_ => h_.1)))); (case side4 => exact (Kd.R_reads' HO109.out).2.1); (case side5 => refine (Kd.R_reads' (e := 67) (base := w.heap.size) (ok := fun k_ => True) (n := t110.length) (c := co38) ?_).2.2; exact (by (with_reducible repeat (first | apply Kd.R_alloc | apply Kd.R_drewN | apply Kd.R_drew)); exact (Kd.R_mono (Kd.R_far (p := ⟨gb120, 4, none⟩) (Kd.R_far (p := ⟨gb120, 3, none⟩) (Kd.R_far (p := ⟨gb120, 2, none⟩) (Kd.R_far (p := ⟨gb120, 1, none⟩) (Kd.R_far (p := ⟨gb120, 0, none⟩) (Kd.R_types HO112.out BK120.out (by decide)) (fun _ hk => hk.2) (.slice Ao34 t104.length co34)) (fun _ hk => hk.2) (.slice Ao37 t107.length co37)) (fun _ hk => hk.2) (.slice Ao38 t110.length co38)) (fun _ hk => hk.2) (.slice Ao39 t113.length co39)) (fun _ hk => hk.2) (.slice Ao40 t116.length co40)) (fun _ h_ => h_.1)))); (case side6 => exact (Kd.R_reads' HO112.out).2.1); (case side7 => refine (Kd.R_reads' (e := 4) (base := w.heap.size) (ok := fun k_ => some k_ ≠ (.slice Ao40 t116.length co40 : Value).ownBlock) (n := t113.length) (c := co39) ?_).2.2; exact (by (with_reducible repeat (first | apply Kd.R_alloc | apply Kd.R_drewN | apply Kd.R_drew)); exact (Kd.R_mono (Kd.R_far (p := ⟨gb120, 4, none⟩) (Kd.R_far (p := ⟨gb120, 3, none⟩) (Kd.R_far (p := ⟨gb120, 2, none⟩) (Kd.R_far (p := ⟨gb120, 1, none⟩) (Kd.R_far (p := ⟨gb120, 0, none⟩) (Kd.R_types HO115.out BK120.out (by decide)) (fun _ hk => hk.2) (.slice Ao34 t104.length co34)) (fun _ hk => hk.2) (.slice Ao37 t107.length co37)) (fun _ hk => hk.2) (.slice Ao38 t110.length co38)) (fun _ hk => hk.2) (.slice Ao39 t113.length co39)) (fun _ hk => hk.2) (.slice Ao40 t116.length co40)) (fun _ h_ => h_.1)))); (case side8 => exact (Kd.R_reads' HO115.out).2.1); (case side9 => refine (Kd.R_reads' (e := 4) (base := w.heap.size) (ok := fun k_ => some k_ ≠ (.slice Ao39 t113.length co39 : Value).ownBlock) (n := t116.length) (c := co40) ?_).2.2; exact (by (with_reducible repeat (first | apply Kd.R_alloc | apply Kd.R_drewN | apply Kd.R_drew)); exact (Kd.R_mono (Kd.R_far (p := ⟨gb120, 4, none⟩) (Kd.R_far (p := ⟨gb120, 3, none⟩) (Kd.R_far (p := ⟨gb120, 2, none⟩) (Kd.R_far (p := ⟨gb120, 1, none⟩) (Kd.R_far (p := ⟨gb120, 0, none⟩) (Kd.R_types HO118.out BK120.out (by decide)) (fun _ hk => hk.2) (.slice Ao34 t104.length co34)) (fun _ hk => hk.2) (.slice Ao37 t107.length co37)) (fun _ hk => hk.2) (.slice Ao38 t110.length co38)) (fun _ hk => hk.2) (.slice Ao39 t113.length co39)) (fun _ hk => hk.2) (.slice Ao40 t116.length co40)) (fun _ h_ => h_.1)))); (case side10 => exact (Kd.R_reads' HO118.out).2.1); rintro e w42 ⟨v138, rfl, ho0, hb⟩; refine ⟨_, rfl, ?_⟩; have n0_ := Aside0.mk (Kd.R_below (by (with_reducible repeat (first | apply Kd.R_alloc | apply Kd.R_drewN | apply Kd.R_drew)); exact (Kd.R_mono (Kd.R_far (p := ⟨gb120, 4, none⟩) (Kd.R_far (p := ⟨gb120, 3, none⟩) (Kd.R_far (p := ⟨gb120, 2, none⟩) (Kd.R_far (p := ⟨gb120, 1, none⟩) (Kd.R_far (p := ⟨gb120, 0, none⟩) (Kd.R_types HO106.out BK120.out (by decide)) (fun _ hk => hk.2) (.slice Ao34 t104.length co34)) (fun _ hk => hk.2) (.slice Ao37 t107.length co37)) (fun _ hk => hk.2) (.slice Ao38 t110.length co38)) (fun _ hk => hk.2) (.slice Ao39 t113.length co39)) (fun _ hk => hk.2) (.slice Ao40 t116.length co40)) (fun _ h_ => h_.1))) hb); have n1_ := Aside0.mk (Kd.R_below (by (with_reducible repeat (first | apply Kd.R_alloc | apply Kd.R_drewN | apply Kd.R_drew)); exact (Kd.R_mono (Kd.R_far (p := ⟨gb120, 4, none⟩) (Kd.R_far (p := ⟨gb120, 3, none⟩) (Kd.R_far (p := ⟨gb120, 2, none⟩) (Kd.R_far (p := ⟨gb120, 1, none⟩) (Kd.R_far (p := ⟨gb120, 0, none⟩) (Kd.R_types HO109.out BK120.out (by decide)) (fun _ hk => hk.2) (.slice Ao34 t104.length co34)) (fun _ hk => hk.2) (.slice Ao37 t107.length co37)) (fun _ hk => hk.2) (.slice Ao38 t110.length co38)) (fun _ hk => hk.2) (.slice Ao39 t113.length co39)) (fun _ hk => hk.2) (.slice Ao40 t116.length co40)) (fun _ h_ => h_.1))) hb); have n2_ := Aside0.mk (Kd.R_below (by (with_reducible repeat (first | apply Kd.R_alloc | apply Kd.R_drewN | apply Kd.R_drew)); exact (Kd.R_mono (Kd.R_far (p := ⟨gb120, 4, none⟩) (Kd.R_far (p := ⟨gb120, 3, none⟩) (Kd.R_far (p := ⟨gb120, 2, none⟩) (Kd.R_far (p := ⟨gb120, 1, none⟩) (Kd.R_far (p := ⟨gb120, 0, none⟩) (Kd.R_types HO112.out BK120.out (by decide)) (fun _ hk => hk.2) (.slice Ao34 t104.length co34)) (fun _ hk => hk.2) (.slice Ao37 t107.length co37)) (fun _ hk => hk.2) (.slice Ao38 t110.length co38)) (fun _ hk => hk.2) (.slice Ao39 t113.length co39)) (fun _ hk => hk.2) (.slice Ao40 t116.length co40)) (fun _ h_ => h_.1))) hb); have n3_ := Aside0.mk (Kd.R_below (by (with_reducible repeat (first | apply Kd.R_alloc | apply Kd.R_drewN | apply Kd.R_drew)); exact (Kd.R_mono (Kd.R_far (p := ⟨gb120, 4, none⟩) (Kd.R_far (p := ⟨gb120, 3, none⟩) (Kd.R_far (p := ⟨gb120, 2, none⟩) (Kd.R_far (p := ⟨gb120, 1, none⟩) (Kd.R_far (p := ⟨gb120, 0, none⟩) (Kd.R_types HO115.out BK120.out (by decide)) (fun _ hk => hk.2) (.slice Ao34 t104.length co34)) (fun _ hk => hk.2) (.slice Ao37 t107.length co37)) (fun _ hk => hk.2) (.slice Ao38 t110.length co38)) (fun _ hk => hk.2) (.slice Ao39 t113.length co39)) (fun _ hk => hk.2) (.slice Ao40 t116.length co40)) (fun _ h_ => h_.1))) hb); have n4_ := Aside0.mk (Kd.R_below (by (with_reducible repeat (first | apply Kd.R_alloc | apply Kd.R_drewN | apply Kd.R_drew)); exact (Kd.R_mono (Kd.R_far (p := ⟨gb120, 4, none⟩) (Kd.R_far (p := ⟨gb120, 3, none⟩) (Kd.R_far (p := ⟨gb120, 2, none⟩) (Kd.R_far (p := ⟨gb120, 1, none⟩) (Kd.R_far (p := ⟨gb120, 0, none⟩) (Kd.R_types HO118.out BK120.out (by decide)) (fun _ hk => hk.2) (.slice Ao34 t104.length co34)) (fun _ hk => hk.2) (.slice Ao37 t107.length co37)) (fun _ hk => hk.2) (.slice Ao38 t110.length co38)) (fun _ hk => hk.2) (.slice Ao39 t113.length co39)) (fun _ hk => hk.2) (.slice Ao40 t116.length co40)) (fun _ h_ => h_.1))) hb); have n5_ := Aside0.mk (Kd.R_lower ho0 (below_size (by repeat (first | (with_reducible first | exact HB.out | apply below_alloc | apply pw_below_drewN | apply below_drew1 | refine below_set ?_ GE101.out | refine below_set ?_ GE120.out) | exact HB.out)))); have n6_ := Aside0.mk (blk_below (g := gb101) (o := .cells #[.int .i64 a1_0, .int .i64 a1_1, .int .i64 a1_2, .int .i64 a1_3, .int .i64 a1_4, .int .i64 a1_5, .int .i64 a1_6] 35 (0, 0)) (by (with_reducible repeat (first | refine blk_drewN ?_ _ | refine blk_drew ?_ | refine blk_alloc ?_ _)); refine blk_far ?_ NB101_120.out _; (with_reducible repeat (first | refine blk_drewN ?_ _ | refine blk_drew ?_ | refine blk_alloc ?_ _)); refine blk_far ?_ NB101_120.out _; (with_reducible repeat (first | refine blk_drewN ?_ _ | refine blk_drew ?_ | refine blk_alloc ?_ _)); refine blk_far ?_ NB101_120.out _; (with_reducible repeat (first | refine blk_drewN ?_ _ | refine blk_drew ?_ | refine blk_alloc ?_ _)); refine blk_far ?_ NB101_120.out _; (with_reducible repeat (first | refine blk_drewN ?_ _ | refine blk_drew ?_ | refine blk_alloc ?_ _)); refine blk_far ?_ NB101_120.out _; (with_reducible repeat (first | refine blk_drewN ?_ _ | refine blk_drew ?_ | refine blk_alloc ?_ _)); exact BK101.out) hb); have n7_ := Aside0.mk (blk_below (g := gb120) (o := .cells #[.slice Ao34 t104.length co34, .slice Ao37 t107.length co37, .slice Ao38 t110.length co38, .slice Ao39 t113.length co39, .slice Ao40 t116.length co40] 27 (0, 0)) (by (with_reducible repeat (first | refine blk_drewN ?_ _ | refine blk_drew ?_ | refine blk_alloc ?_ _)); refine blk_put (cs := #[.slice Ao34 t104.length co34, .slice Ao37 t107.length co37, .slice Ao38 t110.length co38, .slice Ao39 t113.length co39, .slice none 0 0]) ?_ 4 _ rfl; (with_reducible repeat (first | refine blk_drewN ?_ _ | refine blk_drew ?_ | refine blk_alloc ?_ _)); refine blk_put (cs := #[.slice Ao34 t104.length co34, .slice Ao37 t107.length co37, .slice Ao38 t110.length co38, .slice none 0 0, .slice none 0 0]) ?_ 3 _ rfl; (with_reducible repeat (first | refine blk_drewN ?_ _ | refine blk_drew ?_ | refine blk_alloc ?_ _)); refine blk_put (cs := #[.slice Ao34 t104.length co34, .slice Ao37 t107.length co37, .slice none 0 0, .slice none 0 0, .slice none 0 0]) ?_ 2 _ rfl; (with_reducible repeat (first | refine blk_drewN ?_ _ | refine blk_drew ?_ | refine blk_alloc ?_ _)); refine blk_put (cs := #[.slice Ao34 t104.length co34, .slice none 0 0, .slice none 0 0, .slice none 0 0, .slice none 0 0]) ?_ 1 _ rfl; (with_reducible repeat (first | refine blk_drewN ?_ _ | refine blk_drew ?_ | refine blk_alloc ?_ _)); refine blk_put (cs := #[.slice none 0 0, .slice none 0 0, .slice none 0 0, .slice none 0 0, .slice none 0 0]) ?_ 0 _ rfl; (with_reducible repeat (first | refine blk_drewN ?_ _ | refine blk_drew ?_ | refine blk_alloc ?_ _)); exact BK120.out) hb); have n8_ := Aside0.mk (below_step (by repeat (first | (with_reducible first | exact HB.out | apply below_alloc | apply pw_below_drewN | apply below_drew1 | refine below_set ?_ GE101.out | refine below_set ?_ GE120.out) | exact HB.out)) hb); clear HO106; clear HO109; clear HO112; clear HO115; clear HO118; clear BK101; clear BK120; clear HB; have HO106 := n0_; have HO109 := n1_; have HO112 := n2_; have HO115 := n3_; have HO118 := n4_; have HO139 := n5_; have BK101 := n6_; have BK120 := n7_; have HB := n8_; clear n0_ n1_ n2_ n3_ n4_ n5_ n6_ n7_ n8_; (try clear hb); (try clear hb2); (try clear hk); (try clear hi); (try clear ho0)) | ((with_reducible refine gate_dst (N := 12) rfl ?_); refine box_event ?hg (N := 12) ?hd (cs := #[.int .i64 0, .int .i64 0, .int .i64 0, .int .i64 0, .int .i64 0, .int .i64 0, .int .i64 0]) (t := 35) ?hr ?_; (case hd => rfl); (case hg => rfl); (case hr => first | (go_simp; done) | (go_simp; rfl)); intro gb148 hg w43 hbox hb; have n0_ := Aside0.mk (Kd.R_below (by (with_reducible repeat (first | apply Kd.R_alloc | apply Kd.R_drewN | apply Kd.R_drew)); exact HO106.out) hb); have n1_ := Aside0.mk (Kd.R_below (by (with_reducible repeat (first | apply Kd.R_alloc | apply Kd.R_drewN | apply Kd.R_drew)); exact HO109.out) hb); have n2_ := Aside0.mk (Kd.R_below (by (with_reducible repeat (first | apply Kd.R_alloc | apply Kd.R_drewN | apply Kd.R_drew)); exact HO112.out) hb); have n3_ := Aside0.mk (Kd.R_below (by (with_reducible repeat (first | apply Kd.R_alloc | apply Kd.R_drewN | apply Kd.R_drew)); exact HO115.out) hb); have n4_ := Aside0.mk (Kd.R_below (by (with_reducible repeat (first | apply Kd.R_alloc | apply Kd.R_drewN | apply Kd.R_drew)); exact HO118.out) hb); have n5_ := Aside0.mk (Kd.R_below (by (with_reducible repeat (first | apply Kd.R_alloc | apply Kd.R_drewN | apply Kd.R_drew)); exact HO139.out) hb); have n6_ := Aside0.mk (blk_below (g := gb101) (o := .cells #[.int .i64 a1_0, .int .i64 a1_1, .int .i64 a1_2, .int .i64 a1_3, .int .i64 a1_4, .int .i64 a1_5, .int .i64 a1_6] 35 (0, 0)) (by (with_reducible repeat (first | refine blk_drewN ?_ _ | refine blk_drew ?_ | refine blk_alloc ?_ _)); exact BK101.out) hb); have n7_ := Aside0.mk (blk_below (g := gb120) (o := .cells #[.slice Ao34 t104.length co34, .slice Ao37 t107.length co37, .slice Ao38 t110.length co38, .slice Ao39 t113.length co39, .slice Ao40 t116.length co40] 27 (0, 0)) (by (with_reducible repeat (first | refine blk_drewN ?_ _ | refine blk_drew ?_ | refine blk_alloc ?_ _)); exact BK120.out) hb); have n8_ := Aside0.mk (below_step (by repeat (first | (with_reducible first | exact HB.out | apply below_alloc | apply pw_below_drewN | apply below_drew1 | refine below_set ?_ GE101.out | refine below_set ?_ GE120.out) | exact HB.out)) hb); have n9_ := Aside0.mk (hbox); have n10_ := Aside0.mk ((by rw [hg]; exact (below_size (by repeat (first | (with_reducible first | exact HB.out | apply below_alloc | apply pw_below_drewN | apply below_drew1 | refine below_set ?_ GE101.out | refine below_set ?_ GE120.out) | exact HB.out))) : w.heap.size ≤ gb148)); have n11_ := Aside0.mk ((by rw [hg]; exact (below_size (by repeat (first | (with_reducible first | exact HB.out | apply below_alloc | apply pw_below_drewN | apply below_drew1 | refine below_set ?_ GE101.out | refine below_set ?_ GE120.out) | exact HB.out))) : w.heap.size ≤ gb148)); have n12_ := Aside0.mk ((by rw [hg]; exact Nat.ne_of_lt (blk_lt (g := gb101) (o := .cells #[.int .i64 a1_0, .int .i64 a1_1, .int .i64 a1_2, .int .i64 a1_3, .int .i64 a1_4, .int .i64 a1_5, .int .i64 a1_6] 35 (0, 0)) (by (with_reducible repeat (first | refine blk_drewN ?_ _ | refine blk_drew ?_ | refine blk_alloc ?_ _)); exact BK101.out)) : gb101 ≠ gb148)); have n13_ := Aside0.mk ((by rw [hg]; exact Nat.ne_of_gt (blk_lt (g := gb101) (o := .cells #[.int .i64 a1_0, .int .i64 a1_1, .int .i64 a1_2, .int .i64 a1_3, .int .i64 a1_4, .int .i64 a1_5, .int .i64 a1_6] 35 (0, 0)) (by (with_reducible repeat (first | refine blk_drewN ?_ _ | refine blk_drew ?_ | refine blk_alloc ?_ _)); exact BK101.out)) : gb148 ≠ gb101)); have n14_ := Aside0.mk ((by rw [hg]; exact Nat.ne_of_lt (blk_lt (g := gb120) (o := .cells #[.slice Ao34 t104.length co34, .slice Ao37 t107.length co37, .slice Ao38 t110.length co38, .slice Ao39 t113.length co39, .slice Ao40 t116.length co40] 27 (0, 0)) (by (with_reducible repeat (first | refine blk_drewN ?_ _ | refine blk_drew ?_ | refine blk_alloc ?_ _)); exact BK120.out)) : gb120 ≠ gb148)); have n15_ := Aside0.mk ((by rw [hg]; exact Nat.ne_of_gt (blk_lt (g := gb120) (o := .cells #[.slice Ao34 t104.length co34, .slice Ao37 t107.length co37, .slice Ao38 t110.length co38, .slice Ao39 t113.length co39, .slice Ao40 t116.length co40] 27 (0, 0)) (by (with_reducible repeat (first | refine blk_drewN ?_ _ | refine blk_drew ?_ | refine blk_alloc ?_ _)); exact BK120.out)) : gb148 ≠ gb120)); clear HO106; clear HO109; clear HO112; clear HO115; clear HO118; clear HO139; clear BK101; clear BK120; clear HB; have HO106 := n0_; have HO109 := n1_; have HO112 := n2_; have HO115 := n3_; have HO118 := n4_; have HO139 := n5_; have BK101 := n6_; have BK120 := n7_; have HB := n8_; have BK148 := n9_; have GW148 := n10_; have GE148 := n11_; have NB101_148 := n12_; have NB148_101 := n13_; have NB120_148 := n14_; have NB148_120 := n15_; clear n0_ n1_ n2_ n3_ n4_ n5_ n6_ n7_ n8_ n9_ n10_ n11_ n12_ n13_ n14_ n15_; clear hb hbox hg; have hnb44 := NB148_101.out; have hnc44 := NB101_148.out; have hnb45 := NB148_120.out; have hnc45 := NB120_148.out; have hcz46_0 : w43.cell? ⟨gb148, 0, none⟩ = some (.int .i64 0) := (blk_cell BK148.out 0).trans rfl; have hcz46_1 : w43.cell? ⟨gb148, 1, none⟩ = some (.int .i64 0) := (blk_cell BK148.out 1).trans rfl; have hcz46_2 : w43.cell? ⟨gb148, 2, none⟩ = some (.int .i64 0) := (blk_cell BK148.out 2).trans rfl; have hcz46_3 : w43.cell? ⟨gb148, 3, none⟩ = some (.int .i64 0) := (blk_cell BK148.out 3).trans rfl; have hcz46_4 : w43.cell? ⟨gb148, 4, none⟩ = some (.int .i64 0) := (blk_cell BK148.out 4).trans rfl; have hcz46_5 : w43.cell? ⟨gb148, 5, none⟩ = some (.int .i64 0) := (blk_cell BK148.out 5).trans rfl; have hcz46_6 : w43.cell? ⟨gb148, 6, none⟩ = some (.int .i64 0) := (blk_cell BK148.out 6).trans rfl; have hfz46_0 := blk_frozen BK148.out 0; have hfz46_1 := blk_frozen BK148.out 1; have hfz46_2 := blk_frozen BK148.out 2; have hfz46_3 := blk_frozen BK148.out 3; have hfz46_4 := blk_frozen BK148.out 4; have hfz46_5 := blk_frozen BK148.out 5; have hfz46_6 := blk_frozen BK148.out 6; obtain ⟨Ao47, co47, eo47⟩ := Kd.R_slice HO139.out; subst eo47) | ((with_reducible refine gate_callee (f := 21) rfl ?_); refine goesL_ (some 61) rfl rfl Try.func21 (by kernel_rfl) rfl #[.slice Ao47 t137.length co47, .agg #[.int .i64 t140, .int .i64 t141, .int .i64 t142, .int .i64 t143, .int .i64 t144, .int .i64 t145, .int .i64 t146], .int .i64 x8_7] rfl (by (try simp only [List.map_toArray, List.map_cons, List.map_nil]); first | done | rfl | (simp only [List.length_drop, List.length_take]; rfl)) ?_; (with_reducible refine (block_Decode.calls _ _ t137 t140 t141 t142 t143 t144 t145 t146 x8_7 t149 t152 t155 t158 t161 t164 _ ?side1 ?side2 A21.out).mono ?_); (case side1 => refine (Kd.R_reads' (e := 5) (base := w.heap.size) (ok := fun k_ => True) (n := t137.length) (c := co47) ?_).2.2; exact (by (with_reducible repeat (first | apply Kd.R_alloc | apply Kd.R_drewN | apply Kd.R_drew)); exact (Kd.R_mono (Kd.R_far (p := ⟨gb148, 6, none⟩) (Kd.R_far (p := ⟨gb148, 5, none⟩) (Kd.R_far (p := ⟨gb148, 4, none⟩) (Kd.R_far (p := ⟨gb148, 3, none⟩) (Kd.R_far (p := ⟨gb148, 2, none⟩) (Kd.R_far (p := ⟨gb148, 1, none⟩) (Kd.R_far (p := ⟨gb148, 0, none⟩) (Kd.R_types HO139.out BK148.out (by decide)) (fun _ hk => hk.2) (.int .i64 t140)) (fun _ hk => hk.2) (.int .i64 t141)) (fun _ hk => hk.2) (.int .i64 t142)) (fun _ hk => hk.2) (.int .i64 t143)) (fun _ hk => hk.2) (.int .i64 t144)) (fun _ hk => hk.2) (.int .i64 t145)) (fun _ hk => hk.2) (.int .i64 t146)) (fun _ h_ => h_.1)))); (case side2 => exact (Kd.R_reads' HO139.out).2.1); rintro e w48 ⟨v150, v153, v156, v159, v162, rfl, ho0, ho1, ho2, ho3, ho4, hb⟩; refine ⟨_, rfl, ?_⟩; have n0_ := Aside0.mk (Kd.R_elder' (by (with_reducible repeat (first | apply Kd.R_alloc | apply Kd.R_drewN | apply Kd.R_drew)); exact (Kd.R_mono (Kd.R_far (p := ⟨gb148, 6, none⟩) (Kd.R_far (p := ⟨gb148, 5, none⟩) (Kd.R_far (p := ⟨gb148, 4, none⟩) (Kd.R_far (p := ⟨gb148, 3, none⟩) (Kd.R_far (p := ⟨gb148, 2, none⟩) (Kd.R_far (p := ⟨gb148, 1, none⟩) (Kd.R_far (p := ⟨gb148, 0, none⟩) (Kd.R_types HO106.out BK148.out (by decide)) (fun _ hk => hk.2) (.int .i64 t140)) (fun _ hk => hk.2) (.int .i64 t141)) (fun _ hk => hk.2) (.int .i64 t142)) (fun _ hk => hk.2) (.int .i64 t143)) (fun _ hk => hk.2) (.int .i64 t144)) (fun _ hk => hk.2) (.int .i64 t145)) (fun _ hk => hk.2) (.int .i64 t146)) (fun _ h_ => h_.1))) (Kd.R_base ho0) hb); have n1_ := Aside0.mk (Kd.R_elder' (by (with_reducible repeat (first | apply Kd.R_alloc | apply Kd.R_drewN | apply Kd.R_drew)); exact (Kd.R_mono (Kd.R_far (p := ⟨gb148, 6, none⟩) (Kd.R_far (p := ⟨gb148, 5, none⟩) (Kd.R_far (p := ⟨gb148, 4, none⟩) (Kd.R_far (p := ⟨gb148, 3, none⟩) (Kd.R_far (p := ⟨gb148, 2, none⟩) (Kd.R_far (p := ⟨gb148, 1, none⟩) (Kd.R_far (p := ⟨gb148, 0, none⟩) (Kd.R_types HO109.out BK148.out (by decide)) (fun _ hk => hk.2) (.int .i64 t140)) (fun _ hk => hk.2) (.int .i64 t141)) (fun _ hk => hk.2) (.int .i64 t142)) (fun _ hk => hk.2) (.int .i64 t143)) (fun _ hk => hk.2) (.int .i64 t144)) (fun _ hk => hk.2) (.int .i64 t145)) (fun _ hk => hk.2) (.int .i64 t146)) (fun _ h_ => h_.1))) (Kd.R_base ho1) hb); have n2_ := Aside0.mk (Kd.R_elder' (by (with_reducible repeat (first | apply Kd.R_alloc | apply Kd.R_drewN | apply Kd.R_drew)); exact (Kd.R_mono (Kd.R_far (p := ⟨gb148, 6, none⟩) (Kd.R_far (p := ⟨gb148, 5, none⟩) (Kd.R_far (p := ⟨gb148, 4, none⟩) (Kd.R_far (p := ⟨gb148, 3, none⟩) (Kd.R_far (p := ⟨gb148, 2, none⟩) (Kd.R_far (p := ⟨gb148, 1, none⟩) (Kd.R_far (p := ⟨gb148, 0, none⟩) (Kd.R_types HO112.out BK148.out (by decide)) (fun _ hk => hk.2) (.int .i64 t140)) (fun _ hk => hk.2) (.int .i64 t141)) (fun _ hk => hk.2) (.int .i64 t142)) (fun _ hk => hk.2) (.int .i64 t143)) (fun _ hk => hk.2) (.int .i64 t144)) (fun _ hk => hk.2) (.int .i64 t145)) (fun _ hk => hk.2) (.int .i64 t146)) (fun _ h_ => h_.1))) (Kd.R_base ho2) hb); have n3_ := Aside0.mk (Kd.R_mono (Kd.R_told (Kd.R_told (Kd.R_old (by (with_reducible repeat (first | apply Kd.R_alloc | apply Kd.R_drewN | apply Kd.R_drew)); exact (Kd.R_mono (Kd.R_far (p := ⟨gb148, 6, none⟩) (Kd.R_far (p := ⟨gb148, 5, none⟩) (Kd.R_far (p := ⟨gb148, 4, none⟩) (Kd.R_far (p := ⟨gb148, 3, none⟩) (Kd.R_far (p := ⟨gb148, 2, none⟩) (Kd.R_far (p := ⟨gb148, 1, none⟩) (Kd.R_far (p := ⟨gb148, 0, none⟩) (Kd.R_types HO115.out BK148.out (by decide)) (fun _ hk => hk.2) (.int .i64 t140)) (fun _ hk => hk.2) (.int .i64 t141)) (fun _ hk => hk.2) (.int .i64 t142)) (fun _ hk => hk.2) (.int .i64 t143)) (fun _ hk => hk.2) (.int .i64 t144)) (fun _ hk => hk.2) (.int .i64 t145)) (fun _ hk => hk.2) (.int .i64 t146)) (fun _ h_ => h_.1))) hb) (Kd.R_base ho3)) (Kd.R_base ho4)) (fun _ h_ => h_.1)); have n4_ := Aside0.mk (Kd.R_mono (Kd.R_told (Kd.R_told (Kd.R_old (by (with_reducible repeat (first | apply Kd.R_alloc | apply Kd.R_drewN | apply Kd.R_drew)); exact (Kd.R_mono (Kd.R_far (p := ⟨gb148, 6, none⟩) (Kd.R_far (p := ⟨gb148, 5, none⟩) (Kd.R_far (p := ⟨gb148, 4, none⟩) (Kd.R_far (p := ⟨gb148, 3, none⟩) (Kd.R_far (p := ⟨gb148, 2, none⟩) (Kd.R_far (p := ⟨gb148, 1, none⟩) (Kd.R_far (p := ⟨gb148, 0, none⟩) (Kd.R_types HO118.out BK148.out (by decide)) (fun _ hk => hk.2) (.int .i64 t140)) (fun _ hk => hk.2) (.int .i64 t141)) (fun _ hk => hk.2) (.int .i64 t142)) (fun _ hk => hk.2) (.int .i64 t143)) (fun _ hk => hk.2) (.int .i64 t144)) (fun _ hk => hk.2) (.int .i64 t145)) (fun _ hk => hk.2) (.int .i64 t146)) (fun _ h_ => h_.1))) hb) (Kd.R_base ho3)) (Kd.R_base ho4)) (fun _ h_ => h_.1)); have n5_ := Aside0.mk (Kd.R_below (by (with_reducible repeat (first | apply Kd.R_alloc | apply Kd.R_drewN | apply Kd.R_drew)); exact (Kd.R_mono (Kd.R_far (p := ⟨gb148, 6, none⟩) (Kd.R_far (p := ⟨gb148, 5, none⟩) (Kd.R_far (p := ⟨gb148, 4, none⟩) (Kd.R_far (p := ⟨gb148, 3, none⟩) (Kd.R_far (p := ⟨gb148, 2, none⟩) (Kd.R_far (p := ⟨gb148, 1, none⟩) (Kd.R_far (p := ⟨gb148, 0, none⟩) (Kd.R_types HO139.out BK148.out (by decide)) (fun _ hk => hk.2) (.int .i64 t140)) (fun _ hk => hk.2) (.int .i64 t141)) (fun _ hk => hk.2) (.int .i64 t142)) (fun _ hk => hk.2) (.int .i64 t143)) (fun _ hk => hk.2) (.int .i64 t144)) (fun _ hk => hk.2) (.int .i64 t145)) (fun _ hk => hk.2) (.int .i64 t146)) (fun _ h_ => h_.1))) hb); have n6_ := Aside0.mk (Kd.R_lower (Kd.R_new' ho0 (Kd.R_lt (by (with_reducible repeat (first | apply Kd.R_alloc | apply Kd.R_drewN | apply Kd.R_drew)); exact (Kd.R_mono (Kd.R_far (p := ⟨gb148, 6, none⟩) (Kd.R_far (p := ⟨gb148, 5, none⟩) (Kd.R_far (p := ⟨gb148, 4, none⟩) (Kd.R_far (p := ⟨gb148, 3, none⟩) (Kd.R_far (p := ⟨gb148, 2, none⟩) (Kd.R_far (p := ⟨gb148, 1, none⟩) (Kd.R_far (p := ⟨gb148, 0, none⟩) (Kd.R_types HO106.out BK148.out (by decide)) (fun _ hk => hk.2) (.int .i64 t140)) (fun _ hk => hk.2) (.int .i64 t141)) (fun _ hk => hk.2) (.int .i64 t142)) (fun _ hk => hk.2) (.int .i64 t143)) (fun _ hk => hk.2) (.int .i64 t144)) (fun _ hk => hk.2) (.int .i64 t145)) (fun _ hk => hk.2) (.int .i64 t146)) (fun _ h_ => h_.1))))) (below_size (by repeat (first | (with_reducible first | exact HB.out | apply below_alloc | apply pw_below_drewN | apply below_drew1 | refine below_set ?_ GE101.out | refine below_set ?_ GE120.out | refine below_set ?_ GE148.out) | exact HB.out)))); have n7_ := Aside0.mk (Kd.R_lower (Kd.R_new' ho1 (Kd.R_lt (by (with_reducible repeat (first | apply Kd.R_alloc | apply Kd.R_drewN | apply Kd.R_drew)); exact (Kd.R_mono (Kd.R_far (p := ⟨gb148, 6, none⟩) (Kd.R_far (p := ⟨gb148, 5, none⟩) (Kd.R_far (p := ⟨gb148, 4, none⟩) (Kd.R_far (p := ⟨gb148, 3, none⟩) (Kd.R_far (p := ⟨gb148, 2, none⟩) (Kd.R_far (p := ⟨gb148, 1, none⟩) (Kd.R_far (p := ⟨gb148, 0, none⟩) (Kd.R_types HO109.out BK148.out (by decide)) (fun _ hk => hk.2) (.int .i64 t140)) (fun _ hk => hk.2) (.int .i64 t141)) (fun _ hk => hk.2) (.int .i64 t142)) (fun _ hk => hk.2) (.int .i64 t143)) (fun _ hk => hk.2) (.int .i64 t144)) (fun _ hk => hk.2) (.int .i64 t145)) (fun _ hk => hk.2) (.int .i64 t146)) (fun _ h_ => h_.1))))) (below_size (by repeat (first | (with_reducible first | exact HB.out | apply below_alloc | apply pw_below_drewN | apply below_drew1 | refine below_set ?_ GE101.out | refine below_set ?_ GE120.out | refine below_set ?_ GE148.out) | exact HB.out)))); have n8_ := Aside0.mk (Kd.R_lower (Kd.R_new' ho2 (Kd.R_lt (by (with_reducible repeat (first | apply Kd.R_alloc | apply Kd.R_drewN | apply Kd.R_drew)); exact (Kd.R_mono (Kd.R_far (p := ⟨gb148, 6, none⟩) (Kd.R_far (p := ⟨gb148, 5, none⟩) (Kd.R_far (p := ⟨gb148, 4, none⟩) (Kd.R_far (p := ⟨gb148, 3, none⟩) (Kd.R_far (p := ⟨gb148, 2, none⟩) (Kd.R_far (p := ⟨gb148, 1, none⟩) (Kd.R_far (p := ⟨gb148, 0, none⟩) (Kd.R_types HO112.out BK148.out (by decide)) (fun _ hk => hk.2) (.int .i64 t140)) (fun _ hk => hk.2) (.int .i64 t141)) (fun _ hk => hk.2) (.int .i64 t142)) (fun _ hk => hk.2) (.int .i64 t143)) (fun _ hk => hk.2) (.int .i64 t144)) (fun _ hk => hk.2) (.int .i64 t145)) (fun _ hk => hk.2) (.int .i64 t146)) (fun _ h_ => h_.1))))) (below_size (by repeat (first | (with_reducible first | exact HB.out | apply below_alloc | apply pw_below_drewN | apply below_drew1 | refine below_set ?_ GE101.out | refine below_set ?_ GE120.out | refine below_set ?_ GE148.out) | exact HB.out)))); have n9_ := Aside0.mk (Kd.R_lower (Kd.R_new' (Kd.R_new' ho3 (Kd.R_lt (by (with_reducible repeat (first | apply Kd.R_alloc | apply Kd.R_drewN | apply Kd.R_drew)); exact (Kd.R_mono (Kd.R_far (p := ⟨gb148, 6, none⟩) (Kd.R_far (p := ⟨gb148, 5, none⟩) (Kd.R_far (p := ⟨gb148, 4, none⟩) (Kd.R_far (p := ⟨gb148, 3, none⟩) (Kd.R_far (p := ⟨gb148, 2, none⟩) (Kd.R_far (p := ⟨gb148, 1, none⟩) (Kd.R_far (p := ⟨gb148, 0, none⟩) (Kd.R_types HO115.out BK148.out (by decide)) (fun _ hk => hk.2) (.int .i64 t140)) (fun _ hk => hk.2) (.int .i64 t141)) (fun _ hk => hk.2) (.int .i64 t142)) (fun _ hk => hk.2) (.int .i64 t143)) (fun _ hk => hk.2) (.int .i64 t144)) (fun _ hk => hk.2) (.int .i64 t145)) (fun _ hk => hk.2) (.int .i64 t146)) (fun _ h_ => h_.1))))) (Kd.R_lt (by (with_reducible repeat (first | apply Kd.R_alloc | apply Kd.R_drewN | apply Kd.R_drew)); exact (Kd.R_mono (Kd.R_far (p := ⟨gb148, 6, none⟩) (Kd.R_far (p := ⟨gb148, 5, none⟩) (Kd.R_far (p := ⟨gb148, 4, none⟩) (Kd.R_far (p := ⟨gb148, 3, none⟩) (Kd.R_far (p := ⟨gb148, 2, none⟩) (Kd.R_far (p := ⟨gb148, 1, none⟩) (Kd.R_far (p := ⟨gb148, 0, none⟩) (Kd.R_types HO118.out BK148.out (by decide)) (fun _ hk => hk.2) (.int .i64 t140)) (fun _ hk => hk.2) (.int .i64 t141)) (fun _ hk => hk.2) (.int .i64 t142)) (fun _ hk => hk.2) (.int .i64 t143)) (fun _ hk => hk.2) (.int .i64 t144)) (fun _ hk => hk.2) (.int .i64 t145)) (fun _ hk => hk.2) (.int .i64 t146)) (fun _ h_ => h_.1))))) (below_size (by repeat (first | (with_reducible first | exact HB.out | apply below_alloc | apply pw_below_drewN | apply below_drew1 | refine below_set ?_ GE101.out | refine below_set ?_ GE120.out | refine below_set ?_ GE148.out) | exact HB.out)))); have n10_ := Aside0.mk (Kd.R_lower (Kd.R_new' (Kd.R_new' ho4 (Kd.R_lt (by (with_reducible repeat (first | apply Kd.R_alloc | apply Kd.R_drewN | apply Kd.R_drew)); exact (Kd.R_mono (Kd.R_far (p := ⟨gb148, 6, none⟩) (Kd.R_far (p := ⟨gb148, 5, none⟩) (Kd.R_far (p := ⟨gb148, 4, none⟩) (Kd.R_far (p := ⟨gb148, 3, none⟩) (Kd.R_far (p := ⟨gb148, 2, none⟩) (Kd.R_far (p := ⟨gb148, 1, none⟩) (Kd.R_far (p := ⟨gb148, 0, none⟩) (Kd.R_types HO115.out BK148.out (by decide)) (fun _ hk => hk.2) (.int .i64 t140)) (fun _ hk => hk.2) (.int .i64 t141)) (fun _ hk => hk.2) (.int .i64 t142)) (fun _ hk => hk.2) (.int .i64 t143)) (fun _ hk => hk.2) (.int .i64 t144)) (fun _ hk => hk.2) (.int .i64 t145)) (fun _ hk => hk.2) (.int .i64 t146)) (fun _ h_ => h_.1))))) (Kd.R_lt (by (with_reducible repeat (first | apply Kd.R_alloc | apply Kd.R_drewN | apply Kd.R_drew)); exact (Kd.R_mono (Kd.R_far (p := ⟨gb148, 6, none⟩) (Kd.R_far (p := ⟨gb148, 5, none⟩) (Kd.R_far (p := ⟨gb148, 4, none⟩) (Kd.R_far (p := ⟨gb148, 3, none⟩) (Kd.R_far (p := ⟨gb148, 2, none⟩) (Kd.R_far (p := ⟨gb148, 1, none⟩) (Kd.R_far (p := ⟨gb148, 0, none⟩) (Kd.R_types HO118.out BK148.out (by decide)) (fun _ hk => hk.2) (.int .i64 t140)) (fun _ hk => hk.2) (.int .i64 t141)) (fun _ hk => hk.2) (.int .i64 t142)) (fun _ hk => hk.2) (.int .i64 t143)) (fun _ hk => hk.2) (.int .i64 t144)) (fun _ hk => hk.2) (.int .i64 t145)) (fun _ hk => hk.2) (.int .i64 t146)) (fun _ h_ => h_.1))))) (below_size (by repeat (first | (with_reducible first | exact HB.out | apply below_alloc | apply pw_below_drewN | apply below_drew1 | refine below_set ?_ GE101.out | refine below_set ?_ GE120.out | refine below_set ?_ GE148.out) | exact HB.out)))); have n11_ := Aside0.mk (blk_below (g := gb101) (o := .cells #[.int .i64 a1_0, .int .i64 a1_1, .int .i64 a1_2, .int .i64 a1_3, .int .i64 a1_4, .int .i64 a1_5, .int .i64 a1_6] 35 (0, 0)) (by (with_reducible repeat (first | refine blk_drewN ?_ _ | refine blk_drew ?_ | refine blk_alloc ?_ _)); refine blk_far ?_ NB101_148.out _; (with_reducible repeat (first | refine blk_drewN ?_ _ | refine blk_drew ?_ | refine blk_alloc ?_ _)); refine blk_far ?_ NB101_148.out _; (with_reducible repeat (first | refine blk_drewN ?_ _ | refine blk_drew ?_ | refine blk_alloc ?_ _)); refine blk_far ?_ NB101_148.out _; (with_reducible repeat (first | refine blk_drewN ?_ _ | refine blk_drew ?_ | refine blk_alloc ?_ _)); refine blk_far ?_ NB101_148.out _; (with_reducible repeat (first | refine blk_drewN ?_ _ | refine blk_drew ?_ | refine blk_alloc ?_ _)); refine blk_far ?_ NB101_148.out _; (with_reducible repeat (first | refine blk_drewN ?_ _ | refine blk_drew ?_ | refine blk_alloc ?_ _)); refine blk_far ?_ NB101_148.out _; (with_reducible repeat (first | refine blk_drewN ?_ _ | refine blk_drew ?_ | refine blk_alloc ?_ _)); refine blk_far ?_ NB101_148.out _; (with_reducible repeat (first | refine blk_drewN ?_ _ | refine blk_drew ?_ | refine blk_alloc ?_ _)); exact BK101.out) hb); have n12_ := Aside0.mk (blk_below (g := gb120) (o := .cells #[.slice Ao34 t104.length co34, .slice Ao37 t107.length co37, .slice Ao38 t110.length co38, .slice Ao39 t113.length co39, .slice Ao40 t116.length co40] 27 (0, 0)) (by (with_reducible repeat (first | refine blk_drewN ?_ _ | refine blk_drew ?_ | refine blk_alloc ?_ _)); refine blk_far ?_ NB120_148.out _; (with_reducible repeat (first | refine blk_drewN ?_ _ | refine blk_drew ?_ | refine blk_alloc ?_ _)); refine blk_far ?_ NB120_148.out _; (with_reducible repeat (first | refine blk_drewN ?_ _ | refine blk_drew ?_ | refine blk_alloc ?_ _)); refine blk_far ?_ NB120_148.out _; (with_reducible repeat (first | refine blk_drewN ?_ _ | refine blk_drew ?_ | refine blk_alloc ?_ _)); refine blk_far ?_ NB120_148.out _; (with_reducible repeat (first | refine blk_drewN ?_ _ | refine blk_drew ?_ | refine blk_alloc ?_ _)); refine blk_far ?_ NB120_148.out _; (with_reducible repeat (first | refine blk_drewN ?_ _ | refine blk_drew ?_ | refine blk_alloc ?_ _)); refine blk_far ?_ NB120_148.out _; (with_reducible repeat (first | refine blk_drewN ?_ _ | refine blk_drew ?_ | refine blk_alloc ?_ _)); refine blk_far ?_ NB120_148.out _; (with_reducible repeat (first | refine blk_drewN ?_ _ | refine blk_drew ?_ | refine blk_alloc ?_ _)); exact BK120.out) hb); have n13_ := Aside0.mk (blk_below (g := gb148) (o := .cells #[.int .i64 t140, .int .i64 t141, .int .i64 t142, .int .i64 t143, .int .i64 t144, .int .i64 t145, .int .i64 t146] 35 (0, 0)) (by (with_reducible repeat (first | refine blk_drewN ?_ _ | refine blk_drew ?_ | refine blk_alloc ?_ _)); refine blk_put (cs := #[.int .i64 t140, .int .i64 t141, .int .i64 t142, .int .i64 t143, .int .i64 t144, .int .i64 t145, .int .i64 0]) ?_ 6 _ rfl; (with_reducible repeat (first | refine blk_drewN ?_ _ | refine blk_drew ?_ | refine blk_alloc ?_ _)); refine blk_put (cs := #[.int .i64 t140, .int .i64 t141, .int .i64 t142, .int .i64 t143, .int .i64 t144, .int .i64 0, .int .i64 0]) ?_ 5 _ rfl; (with_reducible repeat (first | refine blk_drewN ?_ _ | refine blk_drew ?_ | refine blk_alloc ?_ _)); refine blk_put (cs := #[.int .i64 t140, .int .i64 t141, .int .i64 t142, .int .i64 t143, .int .i64 0, .int .i64 0, .int .i64 0]) ?_ 4 _ rfl; (with_reducible repeat (first | refine blk_drewN ?_ _ | refine blk_drew ?_ | refine blk_alloc ?_ _)); refine blk_put (cs := #[.int .i64 t140, .int .i64 t141, .int .i64 t142, .int .i64 0, .int .i64 0, .int .i64 0, .int .i64 0]) ?_ 3 _ rfl; (with_reducible repeat (first | refine blk_drewN ?_ _ | refine blk_drew ?_ | refine blk_alloc ?_ _)); refine blk_put (cs := #[.int .i64 t140, .int .i64 t141, .int .i64 0, .int .i64 0, .int .i64 0, .int .i64 0, .int .i64 0]) ?_ 2 _ rfl; (with_reducible repeat (first | refine blk_drewN ?_ _ | refine blk_drew ?_ | refine blk_alloc ?_ _)); refine blk_put (cs := #[.int .i64 t140, .int .i64 0, .int .i64 0, .int .i64 0, .int .i64 0, .int .i64 0, .int .i64 0]) ?_ 1 _ rfl; (with_reducible repeat (first | refine blk_drewN ?_ _ | refine blk_drew ?_ | refine blk_alloc ?_ _)); refine blk_put (cs := #[.int .i64 0, .int .i64 0, .int .i64 0, .int .i64 0, .int .i64 0, .int .i64 0, .int .i64 0]) ?_ 0 _ rfl; (with_reducible repeat (first | refine blk_drewN ?_ _ | refine blk_drew ?_ | refine blk_alloc ?_ _)); exact BK148.out) hb); have n14_ := Aside0.mk (below_step (by repeat (first | (with_reducible first | exact HB.out | apply below_alloc | apply pw_below_drewN | apply below_drew1 | refine below_set ?_ GE101.out | refine below_set ?_ GE120.out | refine below_set ?_ GE148.out) | exact HB.out)) hb); clear HO106; clear HO109; clear HO112; clear HO115; clear HO118; clear HO139; clear BK101; clear BK120; clear BK148; clear HB; have HO106 := n0_; have HO109 := n1_; have HO112 := n2_; have HO115 := n3_; have HO118 := n4_; have HO139 := n5_; have HO151 := n6_; have HO154 := n7_; have HO157 := n8_; have HO160 := n9_; have HO163 := n10_; have BK101 := n11_; have BK120 := n12_; have BK148 := n13_; have HB := n14_; clear n0_ n1_ n2_ n3_ n4_ n5_ n6_ n7_ n8_ n9_ n10_ n11_ n12_ n13_ n14_; (try clear hb); (try clear hb2); (try clear hk); (try clear hi); (try clear ho0); (try clear ho1); (try clear ho2); (try clear ho3); (try clear ho4)) | ((with_reducible refine gate_dst (N := 14) rfl ?_); refine box_event ?hg (N := 14) ?hd (cs := #[.slice none 0 0, .slice none 0 0, .slice none 0 0, .slice none 0 0, .slice none 0 0]) (t := 27) ?hr ?_; (case hd => rfl); (case hg => rfl); (case hr => first | (go_simp; done) | (go_simp; rfl)); intro gb165 hg w49 hbox hb; have n0_ := Aside0.mk (Kd.R_below (by (with_reducible repeat (first | apply Kd.R_alloc | apply Kd.R_drewN | apply Kd.R_drew)); exact HO106.out) hb); have n1_ := Aside0.mk (Kd.R_below (by (with_reducible repeat (first | apply Kd.R_alloc | apply Kd.R_drewN | apply Kd.R_drew)); exact HO109.out) hb); have n2_ := Aside0.mk (Kd.R_below (by (with_reducible repeat (first | apply Kd.R_alloc | apply Kd.R_drewN | apply Kd.R_drew)); exact HO112.out) hb); have n3_ := Aside0.mk (Kd.R_below (by (with_reducible repeat (first | apply Kd.R_alloc | apply Kd.R_drewN | apply Kd.R_drew)); exact HO115.out) hb); have n4_ := Aside0.mk (Kd.R_below (by (with_reducible repeat (first | apply Kd.R_alloc | apply Kd.R_drewN | apply Kd.R_drew)); exact HO118.out) hb); have n5_ := Aside0.mk (Kd.R_below (by (with_reducible repeat (first | apply Kd.R_alloc | apply Kd.R_drewN | apply Kd.R_drew)); exact HO139.out) hb); have n6_ := Aside0.mk (Kd.R_below (by (with_reducible repeat (first | apply Kd.R_alloc | apply Kd.R_drewN | apply Kd.R_drew)); exact HO151.out) hb); have n7_ := Aside0.mk (Kd.R_below (by (with_reducible repeat (first | apply Kd.R_alloc | apply Kd.R_drewN | apply Kd.R_drew)); exact HO154.out) hb); have n8_ := Aside0.mk (Kd.R_below (by (with_reducible repeat (first | apply Kd.R_alloc | apply Kd.R_drewN | apply Kd.R_drew)); exact HO157.out) hb); have n9_ := Aside0.mk (Kd.R_below (by (with_reducible repeat (first | apply Kd.R_alloc | apply Kd.R_drewN | apply Kd.R_drew)); exact HO160.out) hb); have n10_ := Aside0.mk (Kd.R_below (by (with_reducible repeat (first | apply Kd.R_alloc | apply Kd.R_drewN | apply Kd.R_drew)); exact HO163.out) hb); have n11_ := Aside0.mk (blk_below (g := gb101) (o := .cells #[.int .i64 a1_0, .int .i64 a1_1, .int .i64 a1_2, .int .i64 a1_3, .int .i64 a1_4, .int .i64 a1_5, .int .i64 a1_6] 35 (0, 0)) (by (with_reducible repeat (first | refine blk_drewN ?_ _ | refine blk_drew ?_ | refine blk_alloc ?_ _)); exact BK101.out) hb); have n12_ := Aside0.mk (blk_below (g := gb120) (o := .cells #[.slice Ao34 t104.length co34, .slice Ao37 t107.length co37, .slice Ao38 t110.length co38, .slice Ao39 t113.length co39, .slice Ao40 t116.length co40] 27 (0, 0)) (by (with_reducible repeat (first | refine blk_drewN ?_ _ | refine blk_drew ?_ | refine blk_alloc ?_ _)); exact BK120.out) hb); have n13_ := Aside0.mk (blk_below (g := gb148) (o := .cells #[.int .i64 t140, .int .i64 t141, .int .i64 t142, .int .i64 t143, .int .i64 t144, .int .i64 t145, .int .i64 t146] 35 (0, 0)) (by (with_reducible repeat (first | refine blk_drewN ?_ _ | refine blk_drew ?_ | refine blk_alloc ?_ _)); exact BK148.out) hb); have n14_ := Aside0.mk (below_step (by repeat (first | (with_reducible first | exact HB.out | apply below_alloc | apply pw_below_drewN | apply below_drew1 | refine below_set ?_ GE101.out | refine below_set ?_ GE120.out | refine below_set ?_ GE148.out) | exact HB.out)) hb); have n15_ := Aside0.mk (hbox); have n16_ := Aside0.mk ((by rw [hg]; exact (below_size (by repeat (first | (with_reducible first | exact HB.out | apply below_alloc | apply pw_below_drewN | apply below_drew1 | refine below_set ?_ GE101.out | refine below_set ?_ GE120.out | refine below_set ?_ GE148.out) | exact HB.out))) : w.heap.size ≤ gb165)); have n17_ := Aside0.mk ((by rw [hg]; exact (below_size (by repeat (first | (with_reducible first | exact HB.out | apply below_alloc | apply pw_below_drewN | apply below_drew1 | refine below_set ?_ GE101.out | refine below_set ?_ GE120.out | refine below_set ?_ GE148.out) | exact HB.out))) : w.heap.size ≤ gb165)); have n18_ := Aside0.mk ((by rw [hg]; exact Nat.ne_of_lt (blk_lt (g := gb101) (o := .cells #[.int .i64 a1_0, .int .i64 a1_1, .int .i64 a1_2, .int .i64 a1_3, .int .i64 a1_4, .int .i64 a1_5, .int .i64 a1_6] 35 (0, 0)) (by (with_reducible repeat (first | refine blk_drewN ?_ _ | refine blk_drew ?_ | refine blk_alloc ?_ _)); exact BK101.out)) : gb101 ≠ gb165)); have n19_ := Aside0.mk ((by rw [hg]; exact Nat.ne_of_gt (blk_lt (g := gb101) (o := .cells #[.int .i64 a1_0, .int .i64 a1_1, .int .i64 a1_2, .int .i64 a1_3, .int .i64 a1_4, .int .i64 a1_5, .int .i64 a1_6] 35 (0, 0)) (by (with_reducible repeat (first | refine blk_drewN ?_ _ | refine blk_drew ?_ | refine blk_alloc ?_ _)); exact BK101.out)) : gb165 ≠ gb101)); have n20_ := Aside0.mk ((by rw [hg]; exact Nat.ne_of_lt (blk_lt (g := gb120) (o := .cells #[.slice Ao34 t104.length co34, .slice Ao37 t107.length co37, .slice Ao38 t110.length co38, .slice Ao39 t113.length co39, .slice Ao40 t116.length co40] 27 (0, 0)) (by (with_reducible repeat (first | refine blk_drewN ?_ _ | refine blk_drew ?_ | refine blk_alloc ?_ _)); exact BK120.out)) : gb120 ≠ gb165)); have n21_ := Aside0.mk ((by rw [hg]; exact Nat.ne_of_gt (blk_lt (g := gb120) (o := .cells #[.slice Ao34 t104.length co34, .slice Ao37 t107.length co37, .slice Ao38 t110.length co38, .slice Ao39 t113.length co39, .slice Ao40 t116.length co40] 27 (0, 0)) (by (with_reducible repeat (first | refine blk_drewN ?_ _ | refine blk_drew ?_ | refine blk_alloc ?_ _)); exact BK120.out)) : gb165 ≠ gb120)); have n22_ := Aside0.mk ((by rw [hg]; exact Nat.ne_of_lt (blk_lt (g := gb148) (o := .cells #[.int .i64 t140, .int .i64 t141, .int .i64 t142, .int .i64 t143, .int .i64 t144, .int .i64 t145, .int .i64 t146] 35 (0, 0)) (by (with_reducible repeat (first | refine blk_drewN ?_ _ | refine blk_drew ?_ | refine blk_alloc ?_ _)); exact BK148.out)) : gb148 ≠ gb165)); have n23_ := Aside0.mk ((by rw [hg]; exact Nat.ne_of_gt (blk_lt (g := gb148) (o := .cells #[.int .i64 t140, .int .i64 t141, .int .i64 t142, .int .i64 t143, .int .i64 t144, .int .i64 t145, .int .i64 t146] 35 (0, 0)) (by (with_reducible repeat (first | refine blk_drewN ?_ _ | refine blk_drew ?_ | refine blk_alloc ?_ _)); exact BK148.out)) : gb165 ≠ gb148)); clear HO106; clear HO109; clear HO112; clear HO115; clear HO118; clear HO139; clear HO151; clear HO154; clear HO157; clear HO160; clear HO163; clear BK101; clear BK120; clear BK148; clear HB; have HO106 := n0_; have HO109 := n1_; have HO112 := n2_; have HO115 := n3_; have HO118 := n4_; have HO139 := n5_; have HO151 := n6_; have HO154 := n7_; have HO157 := n8_; have HO160 := n9_; have HO163 := n10_; have BK101 := n11_; have BK120 := n12_; have BK148 := n13_; have HB := n14_; have BK165 := n15_; have GW165 := n16_; have GE165 := n17_; have NB101_165 := n18_; have NB165_101 := n19_; have NB120_165 := n20_; have NB165_120 := n21_; have NB148_165 := n22_; have NB165_148 := n23_; clear n0_ n1_ n2_ n3_ n4_ n5_ n6_ n7_ n8_ n9_ n10_ n11_ n12_ n13_ n14_ n15_ n16_ n17_ n18_ n19_ n20_ n21_ n22_ n23_; clear hb hbox hg; obtain ⟨Ao50, co50, eo50⟩ := Kd.R_slice HO151.out; subst eo50; have hnb51 := NB165_101.out; have hnc51 := NB101_165.out; have hnb52 := NB165_120.out; have hnc52 := NB120_165.out; have hnb53 := NB165_148.out; have hnc53 := NB148_165.out; have hcz54_0 : w49.cell? ⟨gb165, 0, none⟩ = some (.slice none 0 0) := (blk_cell BK165.out 0).trans rfl; have hcz54_1 : w49.cell? ⟨gb165, 1, none⟩ = some (.slice none 0 0) := (blk_cell BK165.out 1).trans rfl; have hcz54_2 : w49.cell? ⟨gb165, 2, none⟩ = some (.slice none 0 0) := (blk_cell BK165.out 2).trans rfl; have hcz54_3 : w49.cell? ⟨gb165, 3, none⟩ = some (.slice none 0 0) := (blk_cell BK165.out 3).trans rfl; have hcz54_4 : w49.cell? ⟨gb165, 4, none⟩ = some (.slice none 0 0) := (blk_cell BK165.out 4).trans rfl; have hfz54_0 := blk_frozen BK165.out 0; have hfz54_1 := blk_frozen BK165.out 1; have hfz54_2 := blk_frozen BK165.out 2; have hfz54_3 := blk_frozen BK165.out 3; have hfz54_4 := blk_frozen BK165.out 4; obtain ⟨Ao55, co55, eo55⟩ := Kd.R_slice HO154.out; subst eo55; obtain ⟨Ao56, co56, eo56⟩ := Kd.R_slice HO157.out; subst eo56; obtain ⟨Ao57, co57, eo57⟩ := Kd.R_slice HO160.out; subst eo57; obtain ⟨Ao58, co58, eo58⟩ := Kd.R_slice HO163.out; subst eo58))
               have n0_ : Aside0 (Kd.R k56 56 (((((w49.setCell ⟨gb165, 0, none⟩ (.slice Ao50 t149.length co50)).setCell ⟨gb165, 1, none⟩ (.slice Ao55 t152.length co55)).setCell ⟨gb165, 2, none⟩ (.slice Ao56 t155.length co56)).setCell ⟨gb165, 3, none⟩ (.slice Ao57 t158.length co57)).setCell ⟨gb165, 4, none⟩ (.slice Ao58 t161.length co58)) w.heap.size (fun k_ => some k_ ≠ (.slice Ao50 t149.length co50 : Value).ownBlock) (.slice Ao34 t104.length co34) t104) := ⟨by (with_reducible repeat (first | apply Kd.R_alloc | apply Kd.R_drewN | apply Kd.R_drew)); exact Kd.R_mono (Kd.R_far (p := ⟨gb165, 4, none⟩) (Kd.R_far (p := ⟨gb165, 3, none⟩) (Kd.R_far (p := ⟨gb165, 2, none⟩) (Kd.R_far (p := ⟨gb165, 1, none⟩) (Kd.R_far (p := ⟨gb165, 0, none⟩) (Kd.R_types HO106.out BK165.out (by decide)) (fun _ hk => hk.2) (.slice Ao50 t149.length co50)) (fun _ hk => hk.2) (.slice Ao55 t152.length co55)) (fun _ hk => hk.2) (.slice Ao56 t155.length co56)) (fun _ hk => hk.2) (.slice Ao57 t158.length co57)) (fun _ hk => hk.2) (.slice Ao58 t161.length co58)) (fun _ hk => hk.1.2)⟩
               have n1_ : Aside0 (Kd.R k54 54 (((((w49.setCell ⟨gb165, 0, none⟩ (.slice Ao50 t149.length co50)).setCell ⟨gb165, 1, none⟩ (.slice Ao55 t152.length co55)).setCell ⟨gb165, 2, none⟩ (.slice Ao56 t155.length co56)).setCell ⟨gb165, 3, none⟩ (.slice Ao57 t158.length co57)).setCell ⟨gb165, 4, none⟩ (.slice Ao58 t161.length co58)) w.heap.size (fun k_ => some k_ ≠ (.slice Ao55 t152.length co55 : Value).ownBlock) (.slice Ao37 t107.length co37) t107) := ⟨by (with_reducible repeat (first | apply Kd.R_alloc | apply Kd.R_drewN | apply Kd.R_drew)); exact Kd.R_mono (Kd.R_far (p := ⟨gb165, 4, none⟩) (Kd.R_far (p := ⟨gb165, 3, none⟩) (Kd.R_far (p := ⟨gb165, 2, none⟩) (Kd.R_far (p := ⟨gb165, 1, none⟩) (Kd.R_far (p := ⟨gb165, 0, none⟩) (Kd.R_types HO109.out BK165.out (by decide)) (fun _ hk => hk.2) (.slice Ao50 t149.length co50)) (fun _ hk => hk.2) (.slice Ao55 t152.length co55)) (fun _ hk => hk.2) (.slice Ao56 t155.length co56)) (fun _ hk => hk.2) (.slice Ao57 t158.length co57)) (fun _ hk => hk.2) (.slice Ao58 t161.length co58)) (fun _ hk => hk.1.2)⟩
               have n2_ : Aside0 (Kd.R k67 67 (((((w49.setCell ⟨gb165, 0, none⟩ (.slice Ao50 t149.length co50)).setCell ⟨gb165, 1, none⟩ (.slice Ao55 t152.length co55)).setCell ⟨gb165, 2, none⟩ (.slice Ao56 t155.length co56)).setCell ⟨gb165, 3, none⟩ (.slice Ao57 t158.length co57)).setCell ⟨gb165, 4, none⟩ (.slice Ao58 t161.length co58)) w.heap.size (fun k_ => some k_ ≠ (.slice Ao56 t155.length co56 : Value).ownBlock) (.slice Ao38 t110.length co38) t110) := ⟨by (with_reducible repeat (first | apply Kd.R_alloc | apply Kd.R_drewN | apply Kd.R_drew)); exact Kd.R_mono (Kd.R_far (p := ⟨gb165, 4, none⟩) (Kd.R_far (p := ⟨gb165, 3, none⟩) (Kd.R_far (p := ⟨gb165, 2, none⟩) (Kd.R_far (p := ⟨gb165, 1, none⟩) (Kd.R_far (p := ⟨gb165, 0, none⟩) (Kd.R_types HO112.out BK165.out (by decide)) (fun _ hk => hk.2) (.slice Ao50 t149.length co50)) (fun _ hk => hk.2) (.slice Ao55 t152.length co55)) (fun _ hk => hk.2) (.slice Ao56 t155.length co56)) (fun _ hk => hk.2) (.slice Ao57 t158.length co57)) (fun _ hk => hk.2) (.slice Ao58 t161.length co58)) (fun _ hk => hk.1.2)⟩
               have n3_ : Aside0 (Kd.R Kd.bool 4 (((((w49.setCell ⟨gb165, 0, none⟩ (.slice Ao50 t149.length co50)).setCell ⟨gb165, 1, none⟩ (.slice Ao55 t152.length co55)).setCell ⟨gb165, 2, none⟩ (.slice Ao56 t155.length co56)).setCell ⟨gb165, 3, none⟩ (.slice Ao57 t158.length co57)).setCell ⟨gb165, 4, none⟩ (.slice Ao58 t161.length co58)) w.heap.size (fun k_ => some k_ ≠ (.slice Ao40 t116.length co40 : Value).ownBlock ∧ some k_ ≠ (.slice Ao57 t158.length co57 : Value).ownBlock ∧ some k_ ≠ (.slice Ao58 t161.length co58 : Value).ownBlock) (.slice Ao39 t113.length co39) t113) := ⟨by (with_reducible repeat (first | apply Kd.R_alloc | apply Kd.R_drewN | apply Kd.R_drew)); exact Kd.R_mono (Kd.R_far (p := ⟨gb165, 4, none⟩) (Kd.R_far (p := ⟨gb165, 3, none⟩) (Kd.R_far (p := ⟨gb165, 2, none⟩) (Kd.R_far (p := ⟨gb165, 1, none⟩) (Kd.R_far (p := ⟨gb165, 0, none⟩) (Kd.R_types HO115.out BK165.out (by decide)) (fun _ hk => hk.2) (.slice Ao50 t149.length co50)) (fun _ hk => hk.2) (.slice Ao55 t152.length co55)) (fun _ hk => hk.2) (.slice Ao56 t155.length co56)) (fun _ hk => hk.2) (.slice Ao57 t158.length co57)) (fun _ hk => hk.2) (.slice Ao58 t161.length co58)) (fun _ hk => ⟨hk.1.1.1, ⟨hk.1.1.2, hk.1.2⟩⟩)⟩
               have n4_ : Aside0 (Kd.R Kd.bool 4 (((((w49.setCell ⟨gb165, 0, none⟩ (.slice Ao50 t149.length co50)).setCell ⟨gb165, 1, none⟩ (.slice Ao55 t152.length co55)).setCell ⟨gb165, 2, none⟩ (.slice Ao56 t155.length co56)).setCell ⟨gb165, 3, none⟩ (.slice Ao57 t158.length co57)).setCell ⟨gb165, 4, none⟩ (.slice Ao58 t161.length co58)) w.heap.size (fun k_ => some k_ ≠ (.slice Ao39 t113.length co39 : Value).ownBlock ∧ some k_ ≠ (.slice Ao57 t158.length co57 : Value).ownBlock ∧ some k_ ≠ (.slice Ao58 t161.length co58 : Value).ownBlock) (.slice Ao40 t116.length co40) t116) := ⟨by (with_reducible repeat (first | apply Kd.R_alloc | apply Kd.R_drewN | apply Kd.R_drew)); exact Kd.R_mono (Kd.R_far (p := ⟨gb165, 4, none⟩) (Kd.R_far (p := ⟨gb165, 3, none⟩) (Kd.R_far (p := ⟨gb165, 2, none⟩) (Kd.R_far (p := ⟨gb165, 1, none⟩) (Kd.R_far (p := ⟨gb165, 0, none⟩) (Kd.R_types HO118.out BK165.out (by decide)) (fun _ hk => hk.2) (.slice Ao50 t149.length co50)) (fun _ hk => hk.2) (.slice Ao55 t152.length co55)) (fun _ hk => hk.2) (.slice Ao56 t155.length co56)) (fun _ hk => hk.2) (.slice Ao57 t158.length co57)) (fun _ hk => hk.2) (.slice Ao58 t161.length co58)) (fun _ hk => ⟨hk.1.1.1, ⟨hk.1.1.2, hk.1.2⟩⟩)⟩
               have n5_ : Aside0 (Kd.R (Kd.int .u8) 5 (((((w49.setCell ⟨gb165, 0, none⟩ (.slice Ao50 t149.length co50)).setCell ⟨gb165, 1, none⟩ (.slice Ao55 t152.length co55)).setCell ⟨gb165, 2, none⟩ (.slice Ao56 t155.length co56)).setCell ⟨gb165, 3, none⟩ (.slice Ao57 t158.length co57)).setCell ⟨gb165, 4, none⟩ (.slice Ao58 t161.length co58)) w.heap.size (fun _ => True) (.slice Ao47 t137.length co47) t137) := ⟨by (with_reducible repeat (first | apply Kd.R_alloc | apply Kd.R_drewN | apply Kd.R_drew)); exact Kd.R_mono (Kd.R_far (p := ⟨gb165, 4, none⟩) (Kd.R_far (p := ⟨gb165, 3, none⟩) (Kd.R_far (p := ⟨gb165, 2, none⟩) (Kd.R_far (p := ⟨gb165, 1, none⟩) (Kd.R_far (p := ⟨gb165, 0, none⟩) (Kd.R_types HO139.out BK165.out (by decide)) (fun _ hk => hk.2) (.slice Ao50 t149.length co50)) (fun _ hk => hk.2) (.slice Ao55 t152.length co55)) (fun _ hk => hk.2) (.slice Ao56 t155.length co56)) (fun _ hk => hk.2) (.slice Ao57 t158.length co57)) (fun _ hk => hk.2) (.slice Ao58 t161.length co58)) (fun _ hk => trivial)⟩
               have n6_ : Aside0 (Kd.R k56 56 (((((w49.setCell ⟨gb165, 0, none⟩ (.slice Ao50 t149.length co50)).setCell ⟨gb165, 1, none⟩ (.slice Ao55 t152.length co55)).setCell ⟨gb165, 2, none⟩ (.slice Ao56 t155.length co56)).setCell ⟨gb165, 3, none⟩ (.slice Ao57 t158.length co57)).setCell ⟨gb165, 4, none⟩ (.slice Ao58 t161.length co58)) w.heap.size (fun k_ => some k_ ≠ (.slice Ao34 t104.length co34 : Value).ownBlock) (.slice Ao50 t149.length co50) t149) := ⟨by (with_reducible repeat (first | apply Kd.R_alloc | apply Kd.R_drewN | apply Kd.R_drew)); exact Kd.R_mono (Kd.R_far (p := ⟨gb165, 4, none⟩) (Kd.R_far (p := ⟨gb165, 3, none⟩) (Kd.R_far (p := ⟨gb165, 2, none⟩) (Kd.R_far (p := ⟨gb165, 1, none⟩) (Kd.R_far (p := ⟨gb165, 0, none⟩) (Kd.R_types HO151.out BK165.out (by decide)) (fun _ hk => hk.2) (.slice Ao50 t149.length co50)) (fun _ hk => hk.2) (.slice Ao55 t152.length co55)) (fun _ hk => hk.2) (.slice Ao56 t155.length co56)) (fun _ hk => hk.2) (.slice Ao57 t158.length co57)) (fun _ hk => hk.2) (.slice Ao58 t161.length co58)) (fun _ hk => hk.1.2)⟩
               have n7_ : Aside0 (Kd.R k54 54 (((((w49.setCell ⟨gb165, 0, none⟩ (.slice Ao50 t149.length co50)).setCell ⟨gb165, 1, none⟩ (.slice Ao55 t152.length co55)).setCell ⟨gb165, 2, none⟩ (.slice Ao56 t155.length co56)).setCell ⟨gb165, 3, none⟩ (.slice Ao57 t158.length co57)).setCell ⟨gb165, 4, none⟩ (.slice Ao58 t161.length co58)) w.heap.size (fun k_ => some k_ ≠ (.slice Ao37 t107.length co37 : Value).ownBlock) (.slice Ao55 t152.length co55) t152) := ⟨by (with_reducible repeat (first | apply Kd.R_alloc | apply Kd.R_drewN | apply Kd.R_drew)); exact Kd.R_mono (Kd.R_far (p := ⟨gb165, 4, none⟩) (Kd.R_far (p := ⟨gb165, 3, none⟩) (Kd.R_far (p := ⟨gb165, 2, none⟩) (Kd.R_far (p := ⟨gb165, 1, none⟩) (Kd.R_far (p := ⟨gb165, 0, none⟩) (Kd.R_types HO154.out BK165.out (by decide)) (fun _ hk => hk.2) (.slice Ao50 t149.length co50)) (fun _ hk => hk.2) (.slice Ao55 t152.length co55)) (fun _ hk => hk.2) (.slice Ao56 t155.length co56)) (fun _ hk => hk.2) (.slice Ao57 t158.length co57)) (fun _ hk => hk.2) (.slice Ao58 t161.length co58)) (fun _ hk => hk.1.2)⟩
               have n8_ : Aside0 (Kd.R k67 67 (((((w49.setCell ⟨gb165, 0, none⟩ (.slice Ao50 t149.length co50)).setCell ⟨gb165, 1, none⟩ (.slice Ao55 t152.length co55)).setCell ⟨gb165, 2, none⟩ (.slice Ao56 t155.length co56)).setCell ⟨gb165, 3, none⟩ (.slice Ao57 t158.length co57)).setCell ⟨gb165, 4, none⟩ (.slice Ao58 t161.length co58)) w.heap.size (fun k_ => some k_ ≠ (.slice Ao38 t110.length co38 : Value).ownBlock) (.slice Ao56 t155.length co56) t155) := ⟨by (with_reducible repeat (first | apply Kd.R_alloc | apply Kd.R_drewN | apply Kd.R_drew)); exact Kd.R_mono (Kd.R_far (p := ⟨gb165, 4, none⟩) (Kd.R_far (p := ⟨gb165, 3, none⟩) (Kd.R_far (p := ⟨gb165, 2, none⟩) (Kd.R_far (p := ⟨gb165, 1, none⟩) (Kd.R_far (p := ⟨gb165, 0, none⟩) (Kd.R_types HO157.out BK165.out (by decide)) (fun _ hk => hk.2) (.slice Ao50 t149.length co50)) (fun _ hk => hk.2) (.slice Ao55 t152.length co55)) (fun _ hk => hk.2) (.slice Ao56 t155.length co56)) (fun _ hk => hk.2) (.slice Ao57 t158.length co57)) (fun _ hk => hk.2) (.slice Ao58 t161.length co58)) (fun _ hk => hk.1.2)⟩
               have n9_ : Aside0 (Kd.R Kd.bool 4 (((((w49.setCell ⟨gb165, 0, none⟩ (.slice Ao50 t149.length co50)).setCell ⟨gb165, 1, none⟩ (.slice Ao55 t152.length co55)).setCell ⟨gb165, 2, none⟩ (.slice Ao56 t155.length co56)).setCell ⟨gb165, 3, none⟩ (.slice Ao57 t158.length co57)).setCell ⟨gb165, 4, none⟩ (.slice Ao58 t161.length co58)) w.heap.size (fun k_ => some k_ ≠ (.slice Ao39 t113.length co39 : Value).ownBlock ∧ some k_ ≠ (.slice Ao40 t116.length co40 : Value).ownBlock ∧ some k_ ≠ (.slice Ao58 t161.length co58 : Value).ownBlock) (.slice Ao57 t158.length co57) t158) := ⟨by (with_reducible repeat (first | apply Kd.R_alloc | apply Kd.R_drewN | apply Kd.R_drew)); exact Kd.R_mono (Kd.R_far (p := ⟨gb165, 4, none⟩) (Kd.R_far (p := ⟨gb165, 3, none⟩) (Kd.R_far (p := ⟨gb165, 2, none⟩) (Kd.R_far (p := ⟨gb165, 1, none⟩) (Kd.R_far (p := ⟨gb165, 0, none⟩) (Kd.R_types HO160.out BK165.out (by decide)) (fun _ hk => hk.2) (.slice Ao50 t149.length co50)) (fun _ hk => hk.2) (.slice Ao55 t152.length co55)) (fun _ hk => hk.2) (.slice Ao56 t155.length co56)) (fun _ hk => hk.2) (.slice Ao57 t158.length co57)) (fun _ hk => hk.2) (.slice Ao58 t161.length co58)) (fun _ hk => ⟨hk.1.1.2, ⟨hk.1.2, hk.1.1.1⟩⟩)⟩
               have n10_ : Aside0 (Kd.R Kd.bool 4 (((((w49.setCell ⟨gb165, 0, none⟩ (.slice Ao50 t149.length co50)).setCell ⟨gb165, 1, none⟩ (.slice Ao55 t152.length co55)).setCell ⟨gb165, 2, none⟩ (.slice Ao56 t155.length co56)).setCell ⟨gb165, 3, none⟩ (.slice Ao57 t158.length co57)).setCell ⟨gb165, 4, none⟩ (.slice Ao58 t161.length co58)) w.heap.size (fun k_ => some k_ ≠ (.slice Ao39 t113.length co39 : Value).ownBlock ∧ some k_ ≠ (.slice Ao40 t116.length co40 : Value).ownBlock ∧ some k_ ≠ (.slice Ao57 t158.length co57 : Value).ownBlock) (.slice Ao58 t161.length co58) t161) := ⟨by (with_reducible repeat (first | apply Kd.R_alloc | apply Kd.R_drewN | apply Kd.R_drew)); exact Kd.R_mono (Kd.R_far (p := ⟨gb165, 4, none⟩) (Kd.R_far (p := ⟨gb165, 3, none⟩) (Kd.R_far (p := ⟨gb165, 2, none⟩) (Kd.R_far (p := ⟨gb165, 1, none⟩) (Kd.R_far (p := ⟨gb165, 0, none⟩) (Kd.R_types HO163.out BK165.out (by decide)) (fun _ hk => hk.2) (.slice Ao50 t149.length co50)) (fun _ hk => hk.2) (.slice Ao55 t152.length co55)) (fun _ hk => hk.2) (.slice Ao56 t155.length co56)) (fun _ hk => hk.2) (.slice Ao57 t158.length co57)) (fun _ hk => hk.2) (.slice Ao58 t161.length co58)) (fun _ hk => ⟨hk.1.1.2, ⟨hk.1.2, hk.1.1.1⟩⟩)⟩
               have n11_ : Aside0 ((((((w49.setCell ⟨gb165, 0, none⟩ (.slice Ao50 t149.length co50)).setCell ⟨gb165, 1, none⟩ (.slice Ao55 t152.length co55)).setCell ⟨gb165, 2, none⟩ (.slice Ao56 t155.length co56)).setCell ⟨gb165, 3, none⟩ (.slice Ao57 t158.length co57)).setCell ⟨gb165, 4, none⟩ (.slice Ao58 t161.length co58)).heap[gb101]? = some (.cells #[.int .i64 a1_0, .int .i64 a1_1, .int .i64 a1_2, .int .i64 a1_3, .int .i64 a1_4, .int .i64 a1_5, .int .i64 a1_6] 35 (0, 0))) := ⟨by (with_reducible repeat (first | refine blk_drewN ?_ _ | refine blk_drew ?_ | refine blk_alloc ?_ _)); refine blk_far ?_ NB101_165.out _; (with_reducible repeat (first | refine blk_drewN ?_ _ | refine blk_drew ?_ | refine blk_alloc ?_ _)); refine blk_far ?_ NB101_165.out _; (with_reducible repeat (first | refine blk_drewN ?_ _ | refine blk_drew ?_ | refine blk_alloc ?_ _)); refine blk_far ?_ NB101_165.out _; (with_reducible repeat (first | refine blk_drewN ?_ _ | refine blk_drew ?_ | refine blk_alloc ?_ _)); refine blk_far ?_ NB101_165.out _; (with_reducible repeat (first | refine blk_drewN ?_ _ | refine blk_drew ?_ | refine blk_alloc ?_ _)); refine blk_far ?_ NB101_165.out _; (with_reducible repeat (first | refine blk_drewN ?_ _ | refine blk_drew ?_ | refine blk_alloc ?_ _)); exact BK101.out⟩
               have n12_ : Aside0 ((((((w49.setCell ⟨gb165, 0, none⟩ (.slice Ao50 t149.length co50)).setCell ⟨gb165, 1, none⟩ (.slice Ao55 t152.length co55)).setCell ⟨gb165, 2, none⟩ (.slice Ao56 t155.length co56)).setCell ⟨gb165, 3, none⟩ (.slice Ao57 t158.length co57)).setCell ⟨gb165, 4, none⟩ (.slice Ao58 t161.length co58)).heap[gb120]? = some (.cells #[.slice Ao34 t104.length co34, .slice Ao37 t107.length co37, .slice Ao38 t110.length co38, .slice Ao39 t113.length co39, .slice Ao40 t116.length co40] 27 (0, 0))) := ⟨by (with_reducible repeat (first | refine blk_drewN ?_ _ | refine blk_drew ?_ | refine blk_alloc ?_ _)); refine blk_far ?_ NB120_165.out _; (with_reducible repeat (first | refine blk_drewN ?_ _ | refine blk_drew ?_ | refine blk_alloc ?_ _)); refine blk_far ?_ NB120_165.out _; (with_reducible repeat (first | refine blk_drewN ?_ _ | refine blk_drew ?_ | refine blk_alloc ?_ _)); refine blk_far ?_ NB120_165.out _; (with_reducible repeat (first | refine blk_drewN ?_ _ | refine blk_drew ?_ | refine blk_alloc ?_ _)); refine blk_far ?_ NB120_165.out _; (with_reducible repeat (first | refine blk_drewN ?_ _ | refine blk_drew ?_ | refine blk_alloc ?_ _)); refine blk_far ?_ NB120_165.out _; (with_reducible repeat (first | refine blk_drewN ?_ _ | refine blk_drew ?_ | refine blk_alloc ?_ _)); exact BK120.out⟩
               have n13_ : Aside0 ((((((w49.setCell ⟨gb165, 0, none⟩ (.slice Ao50 t149.length co50)).setCell ⟨gb165, 1, none⟩ (.slice Ao55 t152.length co55)).setCell ⟨gb165, 2, none⟩ (.slice Ao56 t155.length co56)).setCell ⟨gb165, 3, none⟩ (.slice Ao57 t158.length co57)).setCell ⟨gb165, 4, none⟩ (.slice Ao58 t161.length co58)).heap[gb148]? = some (.cells #[.int .i64 t140, .int .i64 t141, .int .i64 t142, .int .i64 t143, .int .i64 t144, .int .i64 t145, .int .i64 t146] 35 (0, 0))) := ⟨by (with_reducible repeat (first | refine blk_drewN ?_ _ | refine blk_drew ?_ | refine blk_alloc ?_ _)); refine blk_far ?_ NB148_165.out _; (with_reducible repeat (first | refine blk_drewN ?_ _ | refine blk_drew ?_ | refine blk_alloc ?_ _)); refine blk_far ?_ NB148_165.out _; (with_reducible repeat (first | refine blk_drewN ?_ _ | refine blk_drew ?_ | refine blk_alloc ?_ _)); refine blk_far ?_ NB148_165.out _; (with_reducible repeat (first | refine blk_drewN ?_ _ | refine blk_drew ?_ | refine blk_alloc ?_ _)); refine blk_far ?_ NB148_165.out _; (with_reducible repeat (first | refine blk_drewN ?_ _ | refine blk_drew ?_ | refine blk_alloc ?_ _)); refine blk_far ?_ NB148_165.out _; (with_reducible repeat (first | refine blk_drewN ?_ _ | refine blk_drew ?_ | refine blk_alloc ?_ _)); exact BK148.out⟩
               have n14_ : Aside0 ((((((w49.setCell ⟨gb165, 0, none⟩ (.slice Ao50 t149.length co50)).setCell ⟨gb165, 1, none⟩ (.slice Ao55 t152.length co55)).setCell ⟨gb165, 2, none⟩ (.slice Ao56 t155.length co56)).setCell ⟨gb165, 3, none⟩ (.slice Ao57 t158.length co57)).setCell ⟨gb165, 4, none⟩ (.slice Ao58 t161.length co58)).heap[gb165]? = some (.cells #[.slice Ao50 t149.length co50, .slice Ao55 t152.length co55, .slice Ao56 t155.length co56, .slice Ao57 t158.length co57, .slice Ao58 t161.length co58] 27 (0, 0))) := ⟨by (with_reducible repeat (first | refine blk_drewN ?_ _ | refine blk_drew ?_ | refine blk_alloc ?_ _)); refine blk_put (cs := #[.slice Ao50 t149.length co50, .slice Ao55 t152.length co55, .slice Ao56 t155.length co56, .slice Ao57 t158.length co57, .slice none 0 0]) ?_ 4 _ rfl; (with_reducible repeat (first | refine blk_drewN ?_ _ | refine blk_drew ?_ | refine blk_alloc ?_ _)); refine blk_put (cs := #[.slice Ao50 t149.length co50, .slice Ao55 t152.length co55, .slice Ao56 t155.length co56, .slice none 0 0, .slice none 0 0]) ?_ 3 _ rfl; (with_reducible repeat (first | refine blk_drewN ?_ _ | refine blk_drew ?_ | refine blk_alloc ?_ _)); refine blk_put (cs := #[.slice Ao50 t149.length co50, .slice Ao55 t152.length co55, .slice none 0 0, .slice none 0 0, .slice none 0 0]) ?_ 2 _ rfl; (with_reducible repeat (first | refine blk_drewN ?_ _ | refine blk_drew ?_ | refine blk_alloc ?_ _)); refine blk_put (cs := #[.slice Ao50 t149.length co50, .slice none 0 0, .slice none 0 0, .slice none 0 0, .slice none 0 0]) ?_ 1 _ rfl; (with_reducible repeat (first | refine blk_drewN ?_ _ | refine blk_drew ?_ | refine blk_alloc ?_ _)); refine blk_put (cs := #[.slice none 0 0, .slice none 0 0, .slice none 0 0, .slice none 0 0, .slice none 0 0]) ?_ 0 _ rfl; (with_reducible repeat (first | refine blk_drewN ?_ _ | refine blk_drew ?_ | refine blk_alloc ?_ _)); exact BK165.out⟩
               have n15_ : Aside0 (Below w.heap.size w (((((w49.setCell ⟨gb165, 0, none⟩ (.slice Ao50 t149.length co50)).setCell ⟨gb165, 1, none⟩ (.slice Ao55 t152.length co55)).setCell ⟨gb165, 2, none⟩ (.slice Ao56 t155.length co56)).setCell ⟨gb165, 3, none⟩ (.slice Ao57 t158.length co57)).setCell ⟨gb165, 4, none⟩ (.slice Ao58 t161.length co58))) := ⟨by repeat (first | (with_reducible first | exact HB.out | apply below_alloc | apply pw_below_drewN | apply below_drew1 | refine below_set ?_ GE101.out | refine below_set ?_ GE120.out | refine below_set ?_ GE148.out | refine below_set ?_ GE165.out) | exact HB.out)⟩
               (try clear HO106)
               (try clear HO109)
               (try clear HO112)
               (try clear HO115)
               (try clear HO118)
               (try clear HO139)
               (try clear HO151)
               (try clear HO154)
               (try clear HO157)
               (try clear HO160)
               (try clear HO163)
               (try clear BK101)
               (try clear BK120)
               (try clear BK148)
               (try clear BK165)
               (try clear HB)
               generalize (((((w49.setCell ⟨gb165, 0, none⟩ (.slice Ao50 t149.length co50)).setCell ⟨gb165, 1, none⟩ (.slice Ao55 t152.length co55)).setCell ⟨gb165, 2, none⟩ (.slice Ao56 t155.length co56)).setCell ⟨gb165, 3, none⟩ (.slice Ao57 t158.length co57)).setCell ⟨gb165, 4, none⟩ (.slice Ao58 t161.length co58)) = w59 at n0_ n1_ n2_ n3_ n4_ n5_ n6_ n7_ n8_ n9_ n10_ n11_ n12_ n13_ n14_ n15_ ⊢
               have HO106 := n0_
               have HO109 := n1_
               have HO112 := n2_
               have HO115 := n3_
               have HO118 := n4_
               have HO139 := n5_
               have HO151 := n6_
               have HO154 := n7_
               have HO157 := n8_
               have HO160 := n9_
               have HO163 := n10_
               have BK101 := n11_
               have BK120 := n12_
               have BK148 := n13_
               have BK165 := n14_
               have HB := n15_
               clear n0_ n1_ n2_ n3_ n4_ n5_ n6_ n7_ n8_ n9_ n10_ n11_ n12_ n13_ n14_ n15_
               have n0_ := Aside0.mk (Kd.R_drew HO106.out)
               have n1_ := Aside0.mk (Kd.R_drew HO109.out)
               have n2_ := Aside0.mk (Kd.R_drew HO112.out)
               have n3_ := Aside0.mk (Kd.R_drew HO115.out)
               have n4_ := Aside0.mk (Kd.R_drew HO118.out)
               have n5_ := Aside0.mk (Kd.R_drew HO139.out)
               have n6_ := Aside0.mk (Kd.R_drew HO151.out)
               have n7_ := Aside0.mk (Kd.R_drew HO154.out)
               have n8_ := Aside0.mk (Kd.R_drew HO157.out)
               have n9_ := Aside0.mk (Kd.R_drew HO160.out)
               have n10_ := Aside0.mk (Kd.R_drew HO163.out)
               have n11_ := Aside0.mk (blk_drew BK101.out)
               have n12_ := Aside0.mk (blk_drew BK120.out)
               have n13_ := Aside0.mk (blk_drew BK148.out)
               have n14_ := Aside0.mk (blk_drew BK165.out)
               have n15_ := Aside0.mk (below_drew1 HB.out)
               clear HO106
               clear HO109
               clear HO112
               clear HO115
               clear HO118
               clear HO139
               clear HO151
               clear HO154
               clear HO157
               clear HO160
               clear HO163
               clear BK101
               clear BK120
               clear BK148
               clear BK165
               clear HB
               have HO106 := n0_
               have HO109 := n1_
               have HO112 := n2_
               have HO115 := n3_
               have HO118 := n4_
               have HO139 := n5_
               have HO151 := n6_
               have HO154 := n7_
               have HO157 := n8_
               have HO160 := n9_
               have HO163 := n10_
               have BK101 := n11_
               have BK120 := n12_
               have BK148 := n13_
               have BK165 := n14_
               have HB := n15_
               clear n0_ n1_ n2_ n3_ n4_ n5_ n6_ n7_ n8_ n9_ n10_ n11_ n12_ n13_ n14_ n15_
               refine start_ (n := 38) (S := fun w' => w'.cell? ⟨gb120, 0, none⟩ = some (.slice Ao34 t104.length co34) ∧ w'.cell? ⟨gb120, 1, none⟩ = some (.slice Ao37 t107.length co37) ∧ w'.cell? ⟨gb120, 2, none⟩ = some (.slice Ao38 t110.length co38) ∧ w'.cell? ⟨gb120, 3, none⟩ = some (.slice Ao39 t113.length co39) ∧ w'.cell? ⟨gb120, 4, none⟩ = some (.slice Ao40 t116.length co40) ∧ w'.cell? ⟨gb165, 0, none⟩ = some (.slice Ao50 t149.length co50) ∧ w'.cell? ⟨gb165, 1, none⟩ = some (.slice Ao55 t152.length co55) ∧ w'.cell? ⟨gb165, 2, none⟩ = some (.slice Ao56 t155.length co56) ∧ w'.cell? ⟨gb165, 3, none⟩ = some (.slice Ao57 t158.length co57) ∧ w'.cell? ⟨gb165, 4, none⟩ = some (.slice Ao58 t161.length co58) ∧ w'.cell? ⟨gb148, 0, none⟩ = some (.int .i64 t140) ∧ w'.cell? ⟨gb148, 1, none⟩ = some (.int .i64 t141) ∧ w'.cell? ⟨gb148, 2, none⟩ = some (.int .i64 t142) ∧ w'.cell? ⟨gb148, 3, none⟩ = some (.int .i64 t143) ∧ w'.cell? ⟨gb148, 4, none⟩ = some (.int .i64 t144) ∧ w'.cell? ⟨gb148, 5, none⟩ = some (.int .i64 t145) ∧ w'.cell? ⟨gb148, 6, none⟩ = some (.int .i64 t146) ∧ w'.cell? ⟨gb101, 0, none⟩ = some (.int .i64 a1_0) ∧ w'.cell? ⟨gb101, 1, none⟩ = some (.int .i64 a1_1) ∧ w'.cell? ⟨gb101, 2, none⟩ = some (.int .i64 a1_2) ∧ w'.cell? ⟨gb101, 3, none⟩ = some (.int .i64 a1_3) ∧ w'.cell? ⟨gb101, 4, none⟩ = some (.int .i64 a1_4) ∧ w'.cell? ⟨gb101, 5, none⟩ = some (.int .i64 a1_5) ∧ w'.cell? ⟨gb101, 6, none⟩ = some (.int .i64 a1_6)) (ds := []) #[false, false, false, false, false, false, false, false, false, false, false, false, false, false, false, false, false, false, false, false, false, false, false, false, false, false, false, false, false, false, false, false, false, false, false, false, false, false] (by kernel_rfl) rfl rfl ⟨(blk_cell BK120.out 0).trans rfl, (blk_cell BK120.out 1).trans rfl, (blk_cell BK120.out 2).trans rfl, (blk_cell BK120.out 3).trans rfl, (blk_cell BK120.out 4).trans rfl, (blk_cell BK165.out 0).trans rfl, (blk_cell BK165.out 1).trans rfl, (blk_cell BK165.out 2).trans rfl, (blk_cell BK165.out 3).trans rfl, (blk_cell BK165.out 4).trans rfl, (blk_cell BK148.out 0).trans rfl, (blk_cell BK148.out 1).trans rfl, (blk_cell BK148.out 2).trans rfl, (blk_cell BK148.out 3).trans rfl, (blk_cell BK148.out 4).trans rfl, (blk_cell BK148.out 5).trans rfl, (blk_cell BK148.out 6).trans rfl, (blk_cell BK101.out 0).trans rfl, (blk_cell BK101.out 1).trans rfl, (blk_cell BK101.out 2).trans rfl, (blk_cell BK101.out 3).trans rfl, (blk_cell BK101.out 4).trans rfl, (blk_cell BK101.out 5).trans rfl, (blk_cell BK101.out 6).trans rfl⟩ (fun hHeld => ?_); refine with_tabW longcaselaw06_BlockOnce.tab13 longcaselaw06_BlockOnce.bits13 (fun HT_ HW_ => ?_)
               generalize w59.drew = w60 at HO106 HO109 HO112 HO115 HO118 HO139 HO151 HO154 HO157 HO160 HO163 BK101 BK120 BK148 BK165 HB hHeld ⊢
               refine pure_ (i := 0) (N := some 64) (v := ?_) (a' := ?_) #[true, false, false, false, false, false, false, false, false, false, false, false, false, false, false, false, false, false, false, false, false, false, false, false, false, false, false, false, false, false, false, false, false, false, false, false, false, false] rfl rfl (any_of HT_.out (by kernel_rfl)) (fun _ _ _ h => h) (Or.inl ⟨by rfl, ?_⟩) ?_ ?_
               rotate_left
               ·
                intro w'
                go_simp
                with_reducible rfl
               rotate_left
               ·
                simp only [Act.put, List.setIfInBounds_toArray, List.set_cons_zero, List.set_cons_succ, i64_w, i32_w]
                rfl
               refine pure_ (i := 1) (N := some 65) (v := ?_) (a' := ?_) #[true, true, false, false, false, false, false, false, false, false, false, false, false, false, false, false, false, false, false, false, false, false, false, false, false, false, false, false, false, false, false, false, false, false, false, false, false, false] rfl rfl (any_of HT_.out (by kernel_rfl)) (fun _ _ _ h => h) (Or.inl ⟨by rfl, ?_⟩) ?_ ?_
               rotate_left
               ·
                intro w'
                go_simp
                with_reducible rfl
               rotate_left
               ·
                simp only [Act.put, List.setIfInBounds_toArray, List.set_cons_zero, List.set_cons_succ, i64_w, i32_w]
                rfl
               refine pure_ (i := 2) (N := some 66) (v := ?_) (a' := ?_) #[true, true, true, false, false, false, false, false, false, false, false, false, false, false, false, false, false, false, false, false, false, false, false, false, false, false, false, false, false, false, false, false, false, false, false, false, false, false] rfl rfl (any_of HT_.out (by kernel_rfl)) (fun _ _ _ h => h) (Or.inl ⟨by rfl, ?_⟩) ?_ ?_
               rotate_left
               ·
                intro w'
                go_simp
                with_reducible rfl
               rotate_left
               ·
                simp only [Act.put, List.setIfInBounds_toArray, List.set_cons_zero, List.set_cons_succ, i64_w, i32_w]
                rfl
               refine pure_ (i := 3) (N := some 67) (v := ?_) (a' := ?_) #[true, true, true, true, false, false, false, false, false, false, false, false, false, false, false, false, false, false, false, false, false, false, false, false, false, false, false, false, false, false, false, false, false, false, false, false, false, false] rfl rfl (any_of HT_.out (by kernel_rfl)) (fun _ _ _ h => h) (Or.inl ⟨by rfl, ?_⟩) ?_ ?_
               rotate_left
               ·
                intro w'
                go_simp
                with_reducible rfl
               rotate_left
               ·
                simp only [Act.put, List.setIfInBounds_toArray, List.set_cons_zero, List.set_cons_succ, i64_w, i32_w]
                rfl
               refine pure_ (i := 4) (N := some 68) (v := ?_) (a' := ?_) #[true, true, true, true, true, false, false, false, false, false, false, false, false, false, false, false, false, false, false, false, false, false, false, false, false, false, false, false, false, false, false, false, false, false, false, false, false, false] rfl rfl (any_of HT_.out (by kernel_rfl)) (fun _ _ _ h => h) (Or.inl ⟨by rfl, ?_⟩) ?_ ?_
               rotate_left
               ·
                intro w'
                go_simp
                with_reducible rfl
               rotate_left
               ·
                simp only [Act.put, List.setIfInBounds_toArray, List.set_cons_zero, List.set_cons_succ, i64_w, i32_w]
                rfl
               refine pure_ (i := 5) (N := some 69) (v := ?_) (a' := ?_) #[true, true, true, true, true, true, false, false, false, false, false, false, false, false, false, false, false, false, false, false, false, false, false, false, false, false, false, false, false, false, false, false, false, false, false, false, false, false] rfl rfl (any_of HT_.out (by kernel_rfl)) (fun _ _ _ h => h) (Or.inl ⟨by rfl, ?_⟩) ?_ ?_
               rotate_left
               ·
                intro w'
                go_simp
                with_reducible rfl
               rotate_left
               ·
                simp only [Act.put, List.setIfInBounds_toArray, List.set_cons_zero, List.set_cons_succ, i64_w, i32_w]
                rfl
               refine pure_ (i := 6) (N := some 70) (v := ?_) (a' := ?_) #[true, true, true, true, true, true, true, false, false, false, false, false, false, false, false, false, false, false, false, false, false, false, false, false, false, false, false, false, false, false, false, false, false, false, false, false, false, false] rfl rfl (any_of HT_.out (by kernel_rfl)) (fun _ _ _ h => h) (Or.inl ⟨by rfl, ?_⟩) ?_ ?_
               rotate_left
               ·
                intro w'
                go_simp
                with_reducible rfl
               rotate_left
               ·
                simp only [Act.put, List.setIfInBounds_toArray, List.set_cons_zero, List.set_cons_succ, i64_w, i32_w]
                rfl
               refine pure_ (i := 7) (N := some 71) (v := ?_) (a' := ?_) #[true, true, true, true, true, true, true, true, false, false, false, false, false, false, false, false, false, false, false, false, false, false, false, false, false, false, false, false, false, false, false, false, false, false, false, false, false, false] rfl rfl (any_of HT_.out (by kernel_rfl)) (fun _ _ _ h => h) (Or.inl ⟨by rfl, ?_⟩) ?_ ?_
               rotate_left
               ·
                intro w'
                go_simp
                with_reducible rfl
               rotate_left
               ·
                simp only [Act.put, List.setIfInBounds_toArray, List.set_cons_zero, List.set_cons_succ, i64_w, i32_w]
                rfl
               refine pure_ (i := 8) (N := some 72) (v := ?_) (a' := ?_) #[true, true, true, true, true, true, true, true, true, false, false, false, false, false, false, false, false, false, false, false, false, false, false, false, false, false, false, false, false, false, false, false, false, false, false, false, false, false] rfl rfl (any_of HT_.out (by kernel_rfl)) (fun _ _ _ h => h) (Or.inl ⟨by rfl, ?_⟩) ?_ ?_
               rotate_left
               ·
                intro w'
                go_simp
                with_reducible rfl
               rotate_left
               ·
                simp only [Act.put, List.setIfInBounds_toArray, List.set_cons_zero, List.set_cons_succ, i64_w, i32_w]
                rfl
               refine pure_ (i := 9) (N := some 73) (v := ?_) (a' := ?_) #[true, true, true, true, true, true, true, true, true, true, false, false, false, false, false, false, false, false, false, false, false, false, false, false, false, false, false, false, false, false, false, false, false, false, false, false, false, false] rfl rfl (any_of HT_.out (by kernel_rfl)) (fun _ _ _ h => h) (Or.inl ⟨by rfl, ?_⟩) ?_ ?_
               rotate_left
               ·
                intro w'
                go_simp
                with_reducible rfl
               rotate_left
               ·
                simp only [Act.put, List.setIfInBounds_toArray, List.set_cons_zero, List.set_cons_succ, i64_w, i32_w]
                rfl
               refine take_ (i := 10) (N := some 74) (v := ?_) (a' := ?_) #[true, true, true, true, true, true, true, true, true, true, true, false, false, false, false, false, false, false, false, false, false, false, false, false, false, false, false, false, false, false, false, false, false, false, false, false, false, false] rfl rfl (take_ofW HT_.out HW_.out (by kernel_rfl)) (fun _ _ _ h => h) (Or.inl ⟨by rfl, ?_⟩) hHeld ?_ ?_
               rotate_left
               ·
                rintro w' ⟨s0, s1, s2, s3, s4, s5, s6, s7, s8, s9, s10, s11, s12, s13, s14, s15, s16, s17, s18, s19, s20, s21, s22, s23⟩
                go_simp
                with_reducible rfl
               rotate_left
               ·
                simp only [Act.put, List.setIfInBounds_toArray, List.set_cons_zero, List.set_cons_succ, i64_w, i32_w]
                rfl
               refine take_ (i := 12) (N := some 76) (v := ?_) (a' := ?_) #[true, true, true, true, true, true, true, true, true, true, true, false, true, false, false, false, false, false, false, false, false, false, false, false, false, false, false, false, false, false, false, false, false, false, false, false, false, false] rfl rfl (take_ofW HT_.out HW_.out (by kernel_rfl)) (fun _ _ _ h => h) (Or.inl ⟨by rfl, ?_⟩) hHeld ?_ ?_
               rotate_left
               ·
                rintro w' ⟨s0, s1, s2, s3, s4, s5, s6, s7, s8, s9, s10, s11, s12, s13, s14, s15, s16, s17, s18, s19, s20, s21, s22, s23⟩
                go_simp
                with_reducible rfl
               rotate_left
               ·
                simp only [Act.put, List.setIfInBounds_toArray, List.set_cons_zero, List.set_cons_succ, i64_w, i32_w]
                rfl
               refine one_ (i := 11) (N := some 75) #[true, true, true, true, true, true, true, true, true, true, true, true, true, false, false, false, false, false, false, false, false, false, false, false, false, false, false, false, false, false, false, false, false, false, false, false, false, false] rfl rfl (one_of HT_.out (by kernel_rfl)) (by decide) (fun K hK => ?_)
               refine goes_ Try.func14 (by kernel_rfl) rfl #[.agg #[.slice Ao34 t104.length co34, .slice Ao37 t107.length co37, .slice Ao38 t110.length co38, .slice Ao39 t113.length co39, .slice Ao40 t116.length co40]] (by rfl) rfl rfl (by (try simp only [List.map_toArray, List.map_cons, List.map_nil]); first | done | rfl | (simp only [List.length_drop, List.length_take]; rfl)) ?_
               with_reducible refine (longcaselaw06_ref.calls _ _ t104 _ _ t107 _ _ t110 _ _ t113 _ _ t116 t166 t169 t172 t175 t178 _ A25.out).mono ?_
               rintro e w61 ⟨v167, v170, v173, v176, v179, rfl, ho0, ho1, ho2, ho3, ho4, hb⟩
               refine ⟨_, rfl, ?_⟩
               have n0_ := Aside0.mk (Kd.R_below (by (with_reducible repeat (first | apply Kd.R_alloc | apply Kd.R_drewN | apply Kd.R_drew)); exact HO106.out) hb)
               have n1_ := Aside0.mk (Kd.R_below (by (with_reducible repeat (first | apply Kd.R_alloc | apply Kd.R_drewN | apply Kd.R_drew)); exact HO109.out) hb)
               have n2_ := Aside0.mk (Kd.R_below (by (with_reducible repeat (first | apply Kd.R_alloc | apply Kd.R_drewN | apply Kd.R_drew)); exact HO112.out) hb)
               have n3_ := Aside0.mk (Kd.R_below (by (with_reducible repeat (first | apply Kd.R_alloc | apply Kd.R_drewN | apply Kd.R_drew)); exact HO115.out) hb)
               have n4_ := Aside0.mk (Kd.R_below (by (with_reducible repeat (first | apply Kd.R_alloc | apply Kd.R_drewN | apply Kd.R_drew)); exact HO118.out) hb)
               have n5_ := Aside0.mk (Kd.R_below (by (with_reducible repeat (first | apply Kd.R_alloc | apply Kd.R_drewN | apply Kd.R_drew)); exact HO139.out) hb)
               have n6_ := Aside0.mk (Kd.R_below (by (with_reducible repeat (first | apply Kd.R_alloc | apply Kd.R_drewN | apply Kd.R_drew)); exact HO151.out) hb)
               have n7_ := Aside0.mk (Kd.R_below (by (with_reducible repeat (first | apply Kd.R_alloc | apply Kd.R_drewN | apply Kd.R_drew)); exact HO154.out) hb)
               have n8_ := Aside0.mk (Kd.R_below (by (with_reducible repeat (first | apply Kd.R_alloc | apply Kd.R_drewN | apply Kd.R_drew)); exact HO157.out) hb)
               have n9_ := Aside0.mk (Kd.R_below (by (with_reducible repeat (first | apply Kd.R_alloc | apply Kd.R_drewN | apply Kd.R_drew)); exact HO160.out) hb)
               have n10_ := Aside0.mk (Kd.R_below (by (with_reducible repeat (first | apply Kd.R_alloc | apply Kd.R_drewN | apply Kd.R_drew)); exact HO163.out) hb)
               have n11_ := Aside0.mk (ho0 _ _ (by (with_reducible repeat (first | apply Kd.R_alloc | apply Kd.R_drewN | apply Kd.R_drew)); exact HO106.out))
               have n12_ := Aside0.mk (ho1 _ _ (by (with_reducible repeat (first | apply Kd.R_alloc | apply Kd.R_drewN | apply Kd.R_drew)); exact HO109.out))
               have n13_ := Aside0.mk (ho2 _ _ (by (with_reducible repeat (first | apply Kd.R_alloc | apply Kd.R_drewN | apply Kd.R_drew)); exact HO112.out))
               have n14_ := Aside0.mk (ho3 _ _ (by (with_reducible repeat (first | apply Kd.R_alloc | apply Kd.R_drewN | apply Kd.R_drew)); exact HO115.out))
               have n15_ := Aside0.mk (ho4 _ _ (by (with_reducible repeat (first | apply Kd.R_alloc | apply Kd.R_drewN | apply Kd.R_drew)); exact HO118.out))
               have n16_ := Aside0.mk (blk_below (g := gb101) (o := .cells #[.int .i64 a1_0, .int .i64 a1_1, .int .i64 a1_2, .int .i64 a1_3, .int .i64 a1_4, .int .i64 a1_5, .int .i64 a1_6] 35 (0, 0)) (by (with_reducible repeat (first | refine blk_drewN ?_ _ | refine blk_drew ?_ | refine blk_alloc ?_ _)); exact BK101.out) hb)
               have n17_ := Aside0.mk (blk_below (g := gb120) (o := .cells #[.slice Ao34 t104.length co34, .slice Ao37 t107.length co37, .slice Ao38 t110.length co38, .slice Ao39 t113.length co39, .slice Ao40 t116.length co40] 27 (0, 0)) (by (with_reducible repeat (first | refine blk_drewN ?_ _ | refine blk_drew ?_ | refine blk_alloc ?_ _)); exact BK120.out) hb)
               have n18_ := Aside0.mk (blk_below (g := gb148) (o := .cells #[.int .i64 t140, .int .i64 t141, .int .i64 t142, .int .i64 t143, .int .i64 t144, .int .i64 t145, .int .i64 t146] 35 (0, 0)) (by (with_reducible repeat (first | refine blk_drewN ?_ _ | refine blk_drew ?_ | refine blk_alloc ?_ _)); exact BK148.out) hb)
               have n19_ := Aside0.mk (blk_below (g := gb165) (o := .cells #[.slice Ao50 t149.length co50, .slice Ao55 t152.length co55, .slice Ao56 t155.length co56, .slice Ao57 t158.length co57, .slice Ao58 t161.length co58] 27 (0, 0)) (by (with_reducible repeat (first | refine blk_drewN ?_ _ | refine blk_drew ?_ | refine blk_alloc ?_ _)); exact BK165.out) hb)
               have n20_ := Aside0.mk (below_step (by repeat (first | (with_reducible first | exact HB.out | apply below_alloc | apply pw_below_drewN | apply below_drew1 | refine below_set ?_ GE101.out | refine below_set ?_ GE120.out | refine below_set ?_ GE148.out | refine below_set ?_ GE165.out) | exact HB.out)) hb)
               clear HO106
               clear HO109
               clear HO112
               clear HO115
               clear HO118
               clear HO139
               clear HO151
               clear HO154
               clear HO157
               clear HO160
               clear HO163
               clear BK101
               clear BK120
               clear BK148
               clear BK165
               clear HB
               have HO106 := n0_
               have HO109 := n1_
               have HO112 := n2_
               have HO115 := n3_
               have HO118 := n4_
               have HO139 := n5_
               have HO151 := n6_
               have HO154 := n7_
               have HO157 := n8_
               have HO160 := n9_
               have HO163 := n10_
               have HO168 := n11_
               have HO171 := n12_
               have HO174 := n13_
               have HO177 := n14_
               have HO180 := n15_
               have BK101 := n16_
               have BK120 := n17_
               have BK148 := n18_
               have BK165 := n19_
               have HB := n20_
               clear n0_ n1_ n2_ n3_ n4_ n5_ n6_ n7_ n8_ n9_ n10_ n11_ n12_ n13_ n14_ n15_ n16_ n17_ n18_ n19_ n20_
               (try clear hb)
               (try clear hb2)
               (try clear hk)
               (try clear hi)
               (try clear ho0)
               (try clear ho1)
               (try clear ho2)
               (try clear ho3)
               (try clear ho4)
               refine hK.out _ _ ⟨(blk_cell BK120.out 0).trans rfl, (blk_cell BK120.out 1).trans rfl, (blk_cell BK120.out 2).trans rfl, (blk_cell BK120.out 3).trans rfl, (blk_cell BK120.out 4).trans rfl, (blk_cell BK165.out 0).trans rfl, (blk_cell BK165.out 1).trans rfl, (blk_cell BK165.out 2).trans rfl, (blk_cell BK165.out 3).trans rfl, (blk_cell BK165.out 4).trans rfl, (blk_cell BK148.out 0).trans rfl, (blk_cell BK148.out 1).trans rfl, (blk_cell BK148.out 2).trans rfl, (blk_cell BK148.out 3).trans rfl, (blk_cell BK148.out 4).trans rfl, (blk_cell BK148.out 5).trans rfl, (blk_cell BK148.out 6).trans rfl, (blk_cell BK101.out 0).trans rfl, (blk_cell BK101.out 1).trans rfl, (blk_cell BK101.out 2).trans rfl, (blk_cell BK101.out 3).trans rfl, (blk_cell BK101.out 4).trans rfl, (blk_cell BK101.out 5).trans rfl, (blk_cell BK101.out 6).trans rfl⟩ (fun hHeld => ?_)
               clear hK K
               refine norm_ (a' := ?_) ?_ ?_
               rotate_left
               ·
                show Act.put _ (some 75) _ = _
                simp only [Act.put, List.setIfInBounds_toArray, List.set_cons_zero, List.set_cons_succ, i64_w, i32_w]
                rfl
               refine one_ (i := 13) (N := some 77) #[true, true, true, true, true, true, true, true, true, true, true, true, true, true, false, false, false, false, false, false, false, false, false, false, false, false, false, false, false, false, false, false, false, false, false, false, false, false] rfl rfl (one_of HT_.out (by kernel_rfl)) (by decide) (fun K hK => ?_)
               refine goes_ Try.func14 (by kernel_rfl) rfl #[.agg #[.slice Ao50 t149.length co50, .slice Ao55 t152.length co55, .slice Ao56 t155.length co56, .slice Ao57 t158.length co57, .slice Ao58 t161.length co58]] (by rfl) rfl rfl (by (try simp only [List.map_toArray, List.map_cons, List.map_nil]); first | done | rfl | (simp only [List.length_drop, List.length_take]; rfl)) ?_
               with_reducible refine (longcaselaw06_ref.calls _ _ t149 _ _ t152 _ _ t155 _ _ t158 _ _ t161 t181 t184 t187 t190 t193 _ A26.out).mono ?_
               rintro e w62 ⟨v182, v185, v188, v191, v194, rfl, ho0, ho1, ho2, ho3, ho4, hb⟩
               refine ⟨_, rfl, ?_⟩
               have n0_ := Aside0.mk (Kd.R_below (by (with_reducible repeat (first | apply Kd.R_alloc | apply Kd.R_drewN | apply Kd.R_drew)); exact HO106.out) hb)
               have n1_ := Aside0.mk (Kd.R_below (by (with_reducible repeat (first | apply Kd.R_alloc | apply Kd.R_drewN | apply Kd.R_drew)); exact HO109.out) hb)
               have n2_ := Aside0.mk (Kd.R_below (by (with_reducible repeat (first | apply Kd.R_alloc | apply Kd.R_drewN | apply Kd.R_drew)); exact HO112.out) hb)
               have n3_ := Aside0.mk (Kd.R_below (by (with_reducible repeat (first | apply Kd.R_alloc | apply Kd.R_drewN | apply Kd.R_drew)); exact HO115.out) hb)
               have n4_ := Aside0.mk (Kd.R_below (by (with_reducible repeat (first | apply Kd.R_alloc | apply Kd.R_drewN | apply Kd.R_drew)); exact HO118.out) hb)
               have n5_ := Aside0.mk (Kd.R_below (by (with_reducible repeat (first | apply Kd.R_alloc | apply Kd.R_drewN | apply Kd.R_drew)); exact HO139.out) hb)
               have n6_ := Aside0.mk (Kd.R_below (by (with_reducible repeat (first | apply Kd.R_alloc | apply Kd.R_drewN | apply Kd.R_drew)); exact HO151.out) hb)
               have n7_ := Aside0.mk (Kd.R_below (by (with_reducible repeat (first | apply Kd.R_alloc | apply Kd.R_drewN | apply Kd.R_drew)); exact HO154.out) hb)
               have n8_ := Aside0.mk (Kd.R_below (by (with_reducible repeat (first | apply Kd.R_alloc | apply Kd.R_drewN | apply Kd.R_drew)); exact HO157.out) hb)
               have n9_ := Aside0.mk (Kd.R_below (by (with_reducible repeat (first | apply Kd.R_alloc | apply Kd.R_drewN | apply Kd.R_drew)); exact HO160.out) hb)
               have n10_ := Aside0.mk (Kd.R_below (by (with_reducible repeat (first | apply Kd.R_alloc | apply Kd.R_drewN | apply Kd.R_drew)); exact HO163.out) hb)
               have n11_ := Aside0.mk (Kd.R_below (by (with_reducible repeat (first | apply Kd.R_alloc | apply Kd.R_drewN | apply Kd.R_drew)); exact HO168.out) hb)
               have n12_ := Aside0.mk (Kd.R_below (by (with_reducible repeat (first | apply Kd.R_alloc | apply Kd.R_drewN | apply Kd.R_drew)); exact HO171.out) hb)
               have n13_ := Aside0.mk (Kd.R_below (by (with_reducible repeat (first | apply Kd.R_alloc | apply Kd.R_drewN | apply Kd.R_drew)); exact HO174.out) hb)
               have n14_ := Aside0.mk (Kd.R_below (by (with_reducible repeat (first | apply Kd.R_alloc | apply Kd.R_drewN | apply Kd.R_drew)); exact HO177.out) hb)
               have n15_ := Aside0.mk (Kd.R_below (by (with_reducible repeat (first | apply Kd.R_alloc | apply Kd.R_drewN | apply Kd.R_drew)); exact HO180.out) hb)
               have n16_ := Aside0.mk (ho0 _ _ (by (with_reducible repeat (first | apply Kd.R_alloc | apply Kd.R_drewN | apply Kd.R_drew)); exact HO151.out))
               have n17_ := Aside0.mk (ho1 _ _ (by (with_reducible repeat (first | apply Kd.R_alloc | apply Kd.R_drewN | apply Kd.R_drew)); exact HO154.out))
               have n18_ := Aside0.mk (ho2 _ _ (by (with_reducible repeat (first | apply Kd.R_alloc | apply Kd.R_drewN | apply Kd.R_drew)); exact HO157.out))
               have n19_ := Aside0.mk (ho3 _ _ (by (with_reducible repeat (first | apply Kd.R_alloc | apply Kd.R_drewN | apply Kd.R_drew)); exact HO160.out))
               have n20_ := Aside0.mk (ho4 _ _ (by (with_reducible repeat (first | apply Kd.R_alloc | apply Kd.R_drewN | apply Kd.R_drew)); exact HO163.out))
               have n21_ := Aside0.mk (blk_below (g := gb101) (o := .cells #[.int .i64 a1_0, .int .i64 a1_1, .int .i64 a1_2, .int .i64 a1_3, .int .i64 a1_4, .int .i64 a1_5, .int .i64 a1_6] 35 (0, 0)) (by (with_reducible repeat (first | refine blk_drewN ?_ _ | refine blk_drew ?_ | refine blk_alloc ?_ _)); exact BK101.out) hb)
               have n22_ := Aside0.mk (blk_below (g := gb120) (o := .cells #[.slice Ao34 t104.length co34, .slice Ao37 t107.length co37, .slice Ao38 t110.length co38, .slice Ao39 t113.length co39, .slice Ao40 t116.length co40] 27 (0, 0)) (by (with_reducible repeat (first | refine blk_drewN ?_ _ | refine blk_drew ?_ | refine blk_alloc ?_ _)); exact BK120.out) hb)
               have n23_ := Aside0.mk (blk_below (g := gb148) (o := .cells #[.int .i64 t140, .int .i64 t141, .int .i64 t142, .int .i64 t143, .int .i64 t144, .int .i64 t145, .int .i64 t146] 35 (0, 0)) (by (with_reducible repeat (first | refine blk_drewN ?_ _ | refine blk_drew ?_ | refine blk_alloc ?_ _)); exact BK148.out) hb)
               have n24_ := Aside0.mk (blk_below (g := gb165) (o := .cells #[.slice Ao50 t149.length co50, .slice Ao55 t152.length co55, .slice Ao56 t155.length co56, .slice Ao57 t158.length co57, .slice Ao58 t161.length co58] 27 (0, 0)) (by (with_reducible repeat (first | refine blk_drewN ?_ _ | refine blk_drew ?_ | refine blk_alloc ?_ _)); exact BK165.out) hb)
               have n25_ := Aside0.mk (below_step (by repeat (first | (with_reducible first | exact HB.out | apply below_alloc | apply pw_below_drewN | apply below_drew1 | refine below_set ?_ GE101.out | refine below_set ?_ GE120.out | refine below_set ?_ GE148.out | refine below_set ?_ GE165.out) | exact HB.out)) hb)
               clear HO106
               clear HO109
               clear HO112
               clear HO115
               clear HO118
               clear HO139
               clear HO151
               clear HO154
               clear HO157
               clear HO160
               clear HO163
               clear HO168
               clear HO171
               clear HO174
               clear HO177
               clear HO180
               clear BK101
               clear BK120
               clear BK148
               clear BK165
               clear HB
               have HO106 := n0_
               have HO109 := n1_
               have HO112 := n2_
               have HO115 := n3_
               have HO118 := n4_
               have HO139 := n5_
               have HO151 := n6_
               have HO154 := n7_
               have HO157 := n8_
               have HO160 := n9_
               have HO163 := n10_
               have HO168 := n11_
               have HO171 := n12_
               have HO174 := n13_
               have HO177 := n14_
               have HO180 := n15_
               have HO183 := n16_
               have HO186 := n17_
               have HO189 := n18_
               have HO192 := n19_
               have HO195 := n20_
               have BK101 := n21_
               have BK120 := n22_
               have BK148 := n23_
               have BK165 := n24_
               have HB := n25_
               clear n0_ n1_ n2_ n3_ n4_ n5_ n6_ n7_ n8_ n9_ n10_ n11_ n12_ n13_ n14_ n15_ n16_ n17_ n18_ n19_ n20_ n21_ n22_ n23_ n24_ n25_
               (try clear hb)
               (try clear hb2)
               (try clear hk)
               (try clear hi)
               (try clear ho0)
               (try clear ho1)
               (try clear ho2)
               (try clear ho3)
               (try clear ho4)
               obtain ⟨Ao63, co63, eo63⟩ := Kd.R_slice HO168.out
               (first | subst eo63 | (injection eo63 with f1_ f2_ f3_; have f4_ := f1_.symm; have f5_ := f3_.symm; clear f1_ f2_ f3_; subst f4_; subst f5_))
               obtain ⟨Ao64, co64, eo64⟩ := Kd.R_slice HO171.out
               (first | subst eo64 | (injection eo64 with f1_ f2_ f3_; have f4_ := f1_.symm; have f5_ := f3_.symm; clear f1_ f2_ f3_; subst f4_; subst f5_))
               obtain ⟨Ao65, co65, eo65⟩ := Kd.R_slice HO174.out
               (first | subst eo65 | (injection eo65 with f1_ f2_ f3_; have f4_ := f1_.symm; have f5_ := f3_.symm; clear f1_ f2_ f3_; subst f4_; subst f5_))
               obtain ⟨Ao66, co66, eo66⟩ := Kd.R_slice HO177.out
               (first | subst eo66 | (injection eo66 with f1_ f2_ f3_; have f4_ := f1_.symm; have f5_ := f3_.symm; clear f1_ f2_ f3_; subst f4_; subst f5_))
               obtain ⟨Ao67, co67, eo67⟩ := Kd.R_slice HO180.out
               (first | subst eo67 | (injection eo67 with f1_ f2_ f3_; have f4_ := f1_.symm; have f5_ := f3_.symm; clear f1_ f2_ f3_; subst f4_; subst f5_))
               obtain ⟨Ao68, co68, eo68⟩ := Kd.R_slice HO183.out
               (first | subst eo68 | (injection eo68 with f1_ f2_ f3_; have f4_ := f1_.symm; have f5_ := f3_.symm; clear f1_ f2_ f3_; subst f4_; subst f5_))
               obtain ⟨Ao69, co69, eo69⟩ := Kd.R_slice HO186.out
               (first | subst eo69 | (injection eo69 with f1_ f2_ f3_; have f4_ := f1_.symm; have f5_ := f3_.symm; clear f1_ f2_ f3_; subst f4_; subst f5_))
               obtain ⟨Ao70, co70, eo70⟩ := Kd.R_slice HO189.out
               (first | subst eo70 | (injection eo70 with f1_ f2_ f3_; have f4_ := f1_.symm; have f5_ := f3_.symm; clear f1_ f2_ f3_; subst f4_; subst f5_))
               obtain ⟨Ao71, co71, eo71⟩ := Kd.R_slice HO192.out
               (first | subst eo71 | (injection eo71 with f1_ f2_ f3_; have f4_ := f1_.symm; have f5_ := f3_.symm; clear f1_ f2_ f3_; subst f4_; subst f5_))
               obtain ⟨Ao72, co72, eo72⟩ := Kd.R_slice HO195.out
               (first | subst eo72 | (injection eo72 with f1_ f2_ f3_; have f4_ := f1_.symm; have f5_ := f3_.symm; clear f1_ f2_ f3_; subst f4_; subst f5_))
               refine hK.out _ _ ⟨(blk_cell BK120.out 0).trans rfl, (blk_cell BK120.out 1).trans rfl, (blk_cell BK120.out 2).trans rfl, (blk_cell BK120.out 3).trans rfl, (blk_cell BK120.out 4).trans rfl, (blk_cell BK165.out 0).trans rfl, (blk_cell BK165.out 1).trans rfl, (blk_cell BK165.out 2).trans rfl, (blk_cell BK165.out 3).trans rfl, (blk_cell BK165.out 4).trans rfl, (blk_cell BK148.out 0).trans rfl, (blk_cell BK148.out 1).trans rfl, (blk_cell BK148.out 2).trans rfl, (blk_cell BK148.out 3).trans rfl, (blk_cell BK148.out 4).trans rfl, (blk_cell BK148.out 5).trans rfl, (blk_cell BK148.out 6).trans rfl, (blk_cell BK101.out 0).trans rfl, (blk_cell BK101.out 1).trans rfl, (blk_cell BK101.out 2).trans rfl, (blk_cell BK101.out 3).trans rfl, (blk_cell BK101.out 4).trans rfl, (blk_cell BK101.out 5).trans rfl, (blk_cell BK101.out 6).trans rfl⟩ (fun hHeld => ?_)
               clear hK K
               refine norm_ (a' := ?_) ?_ ?_
               rotate_left
               ·
                show Act.put _ (some 77) _ = _
                simp only [Act.put, List.setIfInBounds_toArray, List.set_cons_zero, List.set_cons_succ, i64_w, i32_w]
                rfl
               refine one_ (i := 14) (N := some 78) #[true, true, true, true, true, true, true, true, true, true, true, true, true, true, true, false, false, false, false, false, false, false, false, false, false, false, false, false, false, false, false, false, false, false, false, false, false, false] rfl rfl (one_of HT_.out (by kernel_rfl)) (by decide) (fun K hK => ?_)
               refine goes_ Try.func17 (by kernel_rfl) rfl #[.agg #[.slice Ao63 t166.length co63, .slice Ao64 t169.length co64, .slice Ao65 t172.length co65, .slice Ao66 t175.length co66, .slice Ao67 t178.length co67], .agg #[.slice Ao68 t181.length co68, .slice Ao69 t184.length co69, .slice Ao70 t187.length co70, .slice Ao71 t190.length co71, .slice Ao72 t193.length co72]] (by rfl) rfl rfl (by (try simp only [List.map_toArray, List.map_cons, List.map_nil]); first | done | rfl | (simp only [List.length_drop, List.length_take]; rfl)) ?_
               with_reducible refine (longcaseref06_Same.calls _ _ t166 _ _ t169 _ _ t172 _ _ t175 _ _ t178 _ _ t181 _ _ t184 _ _ t187 _ _ t190 _ _ t193 true _ ?side1 ?side2 ?side3 ?side4 ?side5 ?side6 ?side7 ?side8 ?side9 ?side10 ?side11 ?side12 ?side13 ?side14 ?side15 ?side16 ?side17 ?side18 ?side19 ?side20 A27.out).mono ?_
               (case side1 => repeat (first | exact (Kd.R_reads' HO168.out).2.2 | (with_reducible refine Kd.C_alloc ?_ _) | (with_reducible refine Kd.C_drewN ?_ _) | (with_reducible refine Kd.C_drew ?_)))
               (case side2 => exact (Kd.R_reads' HO168.out).2.1)
               (case side3 => repeat (first | exact (Kd.R_reads' HO171.out).2.2 | (with_reducible refine Kd.C_alloc ?_ _) | (with_reducible refine Kd.C_drewN ?_ _) | (with_reducible refine Kd.C_drew ?_)))
               (case side4 => exact (Kd.R_reads' HO171.out).2.1)
               (case side5 => repeat (first | exact (Kd.R_reads' HO174.out).2.2 | (with_reducible refine Kd.C_alloc ?_ _) | (with_reducible refine Kd.C_drewN ?_ _) | (with_reducible refine Kd.C_drew ?_)))
               (case side6 => exact (Kd.R_reads' HO174.out).2.1)
               (case side7 => repeat (first | exact (Kd.R_reads' HO177.out).2.2 | (with_reducible refine Kd.C_alloc ?_ _) | (with_reducible refine Kd.C_drewN ?_ _) | (with_reducible refine Kd.C_drew ?_)))
               (case side8 => exact (Kd.R_reads' HO177.out).2.1)
               (case side9 => repeat (first | exact (Kd.R_reads' HO180.out).2.2 | (with_reducible refine Kd.C_alloc ?_ _) | (with_reducible refine Kd.C_drewN ?_ _) | (with_reducible refine Kd.C_drew ?_)))
               (case side10 => exact (Kd.R_reads' HO180.out).2.1)
               (case side11 => repeat (first | exact (Kd.R_reads' HO183.out).2.2 | (with_reducible refine Kd.C_alloc ?_ _) | (with_reducible refine Kd.C_drewN ?_ _) | (with_reducible refine Kd.C_drew ?_)))
               (case side12 => exact (Kd.R_reads' HO183.out).2.1)
               (case side13 => repeat (first | exact (Kd.R_reads' HO186.out).2.2 | (with_reducible refine Kd.C_alloc ?_ _) | (with_reducible refine Kd.C_drewN ?_ _) | (with_reducible refine Kd.C_drew ?_)))
               (case side14 => exact (Kd.R_reads' HO186.out).2.1)
               (case side15 => repeat (first | exact (Kd.R_reads' HO189.out).2.2 | (with_reducible refine Kd.C_alloc ?_ _) | (with_reducible refine Kd.C_drewN ?_ _) | (with_reducible refine Kd.C_drew ?_)))
               (case side16 => exact (Kd.R_reads' HO189.out).2.1)
               (case side17 => repeat (first | exact (Kd.R_reads' HO192.out).2.2 | (with_reducible refine Kd.C_alloc ?_ _) | (with_reducible refine Kd.C_drewN ?_ _) | (with_reducible refine Kd.C_drew ?_)))
               (case side18 => exact (Kd.R_reads' HO192.out).2.1)
               (case side19 => repeat (first | exact (Kd.R_reads' HO195.out).2.2 | (with_reducible refine Kd.C_alloc ?_ _) | (with_reducible refine Kd.C_drewN ?_ _) | (with_reducible refine Kd.C_drew ?_)))
               (case side20 => exact (Kd.R_reads' HO195.out).2.1)
               rintro e w73 ⟨rfl, hb⟩
               refine ⟨_, rfl, ?_⟩
               have n0_ := Aside0.mk (Kd.R_below (by (with_reducible repeat (first | apply Kd.R_alloc | apply Kd.R_drewN | apply Kd.R_drew)); exact HO106.out) hb)
               have n1_ := Aside0.mk (Kd.R_below (by (with_reducible repeat (first | apply Kd.R_alloc | apply Kd.R_drewN | apply Kd.R_drew)); exact HO109.out) hb)
               have n2_ := Aside0.mk (Kd.R_below (by (with_reducible repeat (first | apply Kd.R_alloc | apply Kd.R_drewN | apply Kd.R_drew)); exact HO112.out) hb)
               have n3_ := Aside0.mk (Kd.R_below (by (with_reducible repeat (first | apply Kd.R_alloc | apply Kd.R_drewN | apply Kd.R_drew)); exact HO115.out) hb)
               have n4_ := Aside0.mk (Kd.R_below (by (with_reducible repeat (first | apply Kd.R_alloc | apply Kd.R_drewN | apply Kd.R_drew)); exact HO118.out) hb)
               have n5_ := Aside0.mk (Kd.R_below (by (with_reducible repeat (first | apply Kd.R_alloc | apply Kd.R_drewN | apply Kd.R_drew)); exact HO139.out) hb)
               have n6_ := Aside0.mk (Kd.R_below (by (with_reducible repeat (first | apply Kd.R_alloc | apply Kd.R_drewN | apply Kd.R_drew)); exact HO151.out) hb)
               have n7_ := Aside0.mk (Kd.R_below (by (with_reducible repeat (first | apply Kd.R_alloc | apply Kd.R_drewN | apply Kd.R_drew)); exact HO154.out) hb)
               have n8_ := Aside0.mk (Kd.R_below (by (with_reducible repeat (first | apply Kd.R_alloc | apply Kd.R_drewN | apply Kd.R_drew)); exact HO157.out) hb)
               have n9_ := Aside0.mk (Kd.R_below (by (with_reducible repeat (first | apply Kd.R_alloc | apply Kd.R_drewN | apply Kd.R_drew)); exact HO160.out) hb)
               have n10_ := Aside0.mk (Kd.R_below (by (with_reducible repeat (first | apply Kd.R_alloc | apply Kd.R_drewN | apply Kd.R_drew)); exact HO163.out) hb)
               have n11_ := Aside0.mk (Kd.R_below (by (with_reducible repeat (first | apply Kd.R_alloc | apply Kd.R_drewN | apply Kd.R_drew)); exact HO168.out) hb)
               have n12_ := Aside0.mk (Kd.R_below (by (with_reducible repeat (first | apply Kd.R_alloc | apply Kd.R_drewN | apply Kd.R_drew)); exact HO171.out) hb)
               have n13_ := Aside0.mk (Kd.R_below (by (with_reducible repeat (first | apply Kd.R_alloc | apply Kd.R_drewN | apply Kd.R_drew)); exact HO174.out) hb)
               have n14_ := Aside0.mk (Kd.R_below (by (with_reducible repeat (first | apply Kd.R_alloc | apply Kd.R_drewN | apply Kd.R_drew)); exact HO177.out) hb)
               have n15_ := Aside0.mk (Kd.R_below (by (with_reducible repeat (first | apply Kd.R_alloc | apply Kd.R_drewN | apply Kd.R_drew)); exact HO180.out) hb)
               have n16_ := Aside0.mk (Kd.R_below (by (with_reducible repeat (first | apply Kd.R_alloc | apply Kd.R_drewN | apply Kd.R_drew)); exact HO183.out) hb)
               have n17_ := Aside0.mk (Kd.R_below (by (with_reducible repeat (first | apply Kd.R_alloc | apply Kd.R_drewN | apply Kd.R_drew)); exact HO186.out) hb)
               have n18_ := Aside0.mk (Kd.R_below (by (with_reducible repeat (first | apply Kd.R_alloc | apply Kd.R_drewN | apply Kd.R_drew)); exact HO189.out) hb)
               have n19_ := Aside0.mk (Kd.R_below (by (with_reducible repeat (first | apply Kd.R_alloc | apply Kd.R_drewN | apply Kd.R_drew)); exact HO192.out) hb)
               have n20_ := Aside0.mk (Kd.R_below (by (with_reducible repeat (first | apply Kd.R_alloc | apply Kd.R_drewN | apply Kd.R_drew)); exact HO195.out) hb)
               have n21_ := Aside0.mk (blk_below (g := gb101) (o := .cells #[.int .i64 a1_0, .int .i64 a1_1, .int .i64 a1_2, .int .i64 a1_3, .int .i64 a1_4, .int .i64 a1_5, .int .i64 a1_6] 35 (0, 0)) (by (with_reducible repeat (first | refine blk_drewN ?_ _ | refine blk_drew ?_ | refine blk_alloc ?_ _)); exact BK101.out) hb)
               have n22_ := Aside0.mk (blk_below (g := gb120) (o := .cells #[.slice Ao34 t104.length co34, .slice Ao37 t107.length co37, .slice Ao38 t110.length co38, .slice Ao39 t113.length co39, .slice Ao40 t116.length co40] 27 (0, 0)) (by (with_reducible repeat (first | refine blk_drewN ?_ _ | refine blk_drew ?_ | refine blk_alloc ?_ _)); exact BK120.out) hb)
               have n23_ := Aside0.mk (blk_below (g := gb148) (o := .cells #[.int .i64 t140, .int .i64 t141, .int .i64 t142, .int .i64 t143, .int .i64 t144, .int .i64 t145, .int .i64 t146] 35 (0, 0)) (by (with_reducible repeat (first | refine blk_drewN ?_ _ | refine blk_drew ?_ | refine blk_alloc ?_ _)); exact BK148.out) hb)
               have n24_ := Aside0.mk (blk_below (g := gb165) (o := .cells #[.slice Ao50 t149.length co50, .slice Ao55 t152.length co55, .slice Ao56 t155.length co56, .slice Ao57 t158.length co57, .slice Ao58 t161.length co58] 27 (0, 0)) (by (with_reducible repeat (first | refine blk_drewN ?_ _ | refine blk_drew ?_ | refine blk_alloc ?_ _)); exact BK165.out) hb)
               have n25_ := Aside0.mk (below_step (by repeat (first | (with_reducible first | exact HB.out | apply below_alloc | apply pw_below_drewN | apply below_drew1 | refine below_set ?_ GE101.out | refine below_set ?_ GE120.out | refine below_set ?_ GE148.out | refine below_set ?_ GE165.out) | exact HB.out)) hb)
               clear HO106
               clear HO109
               clear HO112
               clear HO115
               clear HO118
               clear HO139
               clear HO151
               clear HO154
               clear HO157
               clear HO160
               clear HO163
               clear HO168
               clear HO171
               clear HO174
               clear HO177
               clear HO180
               clear HO183
               clear HO186
               clear HO189
               clear HO192
               clear HO195
               clear BK101
               clear BK120
               clear BK148
               clear BK165
               clear HB
               have HO106 := n0_
               have HO109 := n1_
               have HO112 := n2_
               have HO115 := n3_
               have HO118 := n4_
               have HO139 := n5_
               have HO151 := n6_
               have HO154 := n7_
               have HO157 := n8_
               have HO160 := n9_
               have HO163 := n10_
               have HO168 := n11_
               have HO171 := n12_
               have HO174 := n13_
               have HO177 := n14_
               have HO180 := n15_
               have HO183 := n16_
               have HO186 := n17_
               have HO189 := n18_
               have HO192 := n19_
               have HO195 := n20_
               have BK101 := n21_
               have BK120 := n22_
               have BK148 := n23_
               have BK165 := n24_
               have HB := n25_
               clear n0_ n1_ n2_ n3_ n4_ n5_ n6_ n7_ n8_ n9_ n10_ n11_ n12_ n13_ n14_ n15_ n16_ n17_ n18_ n19_ n20_ n21_ n22_ n23_ n24_ n25_
               (try clear hb)
               (try clear hb2)
               (try clear hk)
               (try clear hi)
               refine hK.out _ _ ⟨(blk_cell BK120.out 0).trans rfl, (blk_cell BK120.out 1).trans rfl, (blk_cell BK120.out 2).trans rfl, (blk_cell BK120.out 3).trans rfl, (blk_cell BK120.out 4).trans rfl, (blk_cell BK165.out 0).trans rfl, (blk_cell BK165.out 1).trans rfl, (blk_cell BK165.out 2).trans rfl, (blk_cell BK165.out 3).trans rfl, (blk_cell BK165.out 4).trans rfl, (blk_cell BK148.out 0).trans rfl, (blk_cell BK148.out 1).trans rfl, (blk_cell BK148.out 2).trans rfl, (blk_cell BK148.out 3).trans rfl, (blk_cell BK148.out 4).trans rfl, (blk_cell BK148.out 5).trans rfl, (blk_cell BK148.out 6).trans rfl, (blk_cell BK101.out 0).trans rfl, (blk_cell BK101.out 1).trans rfl, (blk_cell BK101.out 2).trans rfl, (blk_cell BK101.out 3).trans rfl, (blk_cell BK101.out 4).trans rfl, (blk_cell BK101.out 5).trans rfl, (blk_cell BK101.out 6).trans rfl⟩ (fun hHeld => ?_)
               clear hK K
               refine norm_ (a' := ?_) ?_ ?_
               rotate_left
               ·
                show Act.put _ (some 78) _ = _
                simp only [Act.put, List.setIfInBounds_toArray, List.set_cons_zero, List.set_cons_succ, i64_w, i32_w]
                rfl
               refine pure_ (i := 15) (N := some 79) (v := ?_) (a' := ?_) #[true, true, true, true, true, true, true, true, true, true, true, true, true, true, true, true, false, false, false, false, false, false, false, false, false, false, false, false, false, false, false, false, false, false, false, false, false, false] rfl rfl (any_of HT_.out (by kernel_rfl)) (fun _ _ _ h => h) (Or.inl ⟨by rfl, ?_⟩) ?_ ?_
               rotate_left
               ·
                intro w'
                go_simp
                with_reducible rfl
               rotate_left
               ·
                simp only [Act.put, List.setIfInBounds_toArray, List.set_cons_zero, List.set_cons_succ, i64_w, i32_w]
                rfl
               refine pure_ (i := 16) (N := some 80) (v := ?_) (a' := ?_) #[true, true, true, true, true, true, true, true, true, true, true, true, true, true, true, true, true, false, false, false, false, false, false, false, false, false, false, false, false, false, false, false, false, false, false, false, false, false] rfl rfl (any_of HT_.out (by kernel_rfl)) (fun _ _ _ h => h) (Or.inl ⟨by rfl, ?_⟩) ?_ ?_
               rotate_left
               ·
                intro w'
                go_simp
                with_reducible rfl
               rotate_left
               ·
                simp only [Act.put, List.setIfInBounds_toArray, List.set_cons_zero, List.set_cons_succ, i64_w, i32_w]
                rfl
               refine pure_ (i := 17) (N := some 81) (v := ?_) (a' := ?_) #[true, true, true, true, true, true, true, true, true, true, true, true, true, true, true, true, true, true, false, false, false, false, false, false, false, false, false, false, false, false, false, false, false, false, false, false, false, false] rfl rfl (any_of HT_.out (by kernel_rfl)) (fun _ _ _ h => h) (Or.inl ⟨by rfl, ?_⟩) ?_ ?_
               rotate_left
               ·
                intro w'
                go_simp
                with_reducible rfl
               rotate_left
               ·
                simp only [Act.put, List.setIfInBounds_toArray, List.set_cons_zero, List.set_cons_succ, i64_w, i32_w]
                rfl
               refine pure_ (i := 19) (N := some 83) (v := ?_) (a' := ?_) #[true, true, true, true, true, true, true, true, true, true, true, true, true, true, true, true, true, true, false, true, false, false, false, false, false, false, false, false, false, false, false, false, false, false, false, false, false, false] rfl rfl (any_of HT_.out (by kernel_rfl)) (fun _ _ _ h => h) (Or.inl ⟨by rfl, ?_⟩) ?_ ?_
               rotate_left
               ·
                intro w'
                go_simp
                with_reducible rfl
               rotate_left
               ·
                simp only [Act.put, List.setIfInBounds_toArray, List.set_cons_zero, List.set_cons_succ, i64_w, i32_w]
                rfl
               refine take_ (i := 18) (N := some 82) (v := ?_) (a' := ?_) #[true, true, true, true, true, true, true, true, true, true, true, true, true, true, true, true, true, true, true, true, false, false, false, false, false, false, false, false, false, false, false, false, false, false, false, false, false, false] rfl rfl (take_ofW HT_.out HW_.out (by kernel_rfl)) (fun _ _ _ h => h) (Or.inl ⟨by rfl, ?_⟩) hHeld ?_ ?_
               rotate_left
               ·
                rintro w' ⟨s0, s1, s2, s3, s4, s5, s6, s7, s8, s9, s10, s11, s12, s13, s14, s15, s16, s17, s18, s19, s20, s21, s22, s23⟩
                go_simp
                with_reducible rfl
               rotate_left
               ·
                simp only [Act.put, List.setIfInBounds_toArray, List.set_cons_zero, List.set_cons_succ, i64_w, i32_w]
                rfl
               refine take_ (i := 20) (N := some 84) (v := ?_) (a' := ?_) #[true, true, true, true, true, true, true, true, true, true, true, true, true, true, true, true, true, true, true, true, true, false, false, false, false, false, false, false, false, false, false, false, false, false, false, false, false, false] rfl rfl (take_ofW HT_.out HW_.out (by kernel_rfl)) (fun _ _ _ h => h) (Or.inl ⟨by rfl, ?_⟩) hHeld ?_ ?_
               rotate_left
               ·
                rintro w' ⟨s0, s1, s2, s3, s4, s5, s6, s7, s8, s9, s10, s11, s12, s13, s14, s15, s16, s17, s18, s19, s20, s21, s22, s23⟩
                go_simp
                with_reducible rfl
               rotate_left
               ·
                simp only [Act.put, List.setIfInBounds_toArray, List.set_cons_zero, List.set_cons_succ, i64_w, i32_w]
                rfl
               refine pure_ (i := 21) (N := some 85) (v := ?_) (a' := ?_) #[true, true, true, true, true, true, true, true, true, true, true, true, true, true, true, true, true, true, true, true, true, true, false, false, false, false, false, false, false, false, false, false, false, false, false, false, false, false] rfl rfl (any_of HT_.out (by kernel_rfl)) (fun _ _ _ h => h) (Or.inl ⟨by rfl, ?_⟩) ?_ ?_
               rotate_left
               ·
                intro w'
                go_simp
                with_reducible rfl
               rotate_left
               ·
                simp only [Act.put, List.setIfInBounds_toArray, List.set_cons_zero, List.set_cons_succ, i64_w, i32_w]
                rfl
               refine pure_ (i := 22) (N := some 86) (v := ?_) (a' := ?_) #[true, true, true, true, true, true, true, true, true, true, true, true, true, true, true, true, true, true, true, true, true, true, true, false, false, false, false, false, false, false, false, false, false, false, false, false, false, false] rfl rfl (any_of HT_.out (by kernel_rfl)) (fun _ _ _ h => h) (Or.inl ⟨by rfl, ?_⟩) ?_ ?_
               rotate_left
               ·
                intro w'
                go_simp
                with_reducible rfl
               rotate_left
               ·
                simp only [Act.put, List.setIfInBounds_toArray, List.set_cons_zero, List.set_cons_succ, i64_w, i32_w]
                rfl
               refine pure_ (i := 23) (N := some 87) (v := ?_) (a' := ?_) #[true, true, true, true, true, true, true, true, true, true, true, true, true, true, true, true, true, true, true, true, true, true, true, true, false, false, false, false, false, false, false, false, false, false, false, false, false, false] rfl rfl (any_of HT_.out (by kernel_rfl)) (fun _ _ _ h => h) (Or.inl ⟨by rfl, ?_⟩) ?_ ?_
               rotate_left
               ·
                intro w'
                go_simp
                with_reducible rfl
               rotate_left
               ·
                simp only [Act.put, List.setIfInBounds_toArray, List.set_cons_zero, List.set_cons_succ, i64_w, i32_w]
                rfl
               refine pure_ (i := 24) (N := some 88) (v := ?_) (a' := ?_) #[true, true, true, true, true, true, true, true, true, true, true, true, true, true, true, true, true, true, true, true, true, true, true, true, true, false, false, false, false, false, false, false, false, false, false, false, false, false] rfl rfl (any_of HT_.out (by kernel_rfl)) (fun _ _ _ h => h) (Or.inl ⟨by rfl, ?_⟩) ?_ ?_
               rotate_left
               ·
                intro w'
                go_simp
                with_reducible rfl
               rotate_left
               ·
                simp only [Act.put, List.setIfInBounds_toArray, List.set_cons_zero, List.set_cons_succ, i64_w, i32_w]
                rfl
               refine pure_ (i := 26) (N := some 90) (v := ?_) (a' := ?_) #[true, true, true, true, true, true, true, true, true, true, true, true, true, true, true, true, true, true, true, true, true, true, true, true, true, false, true, false, false, false, false, false, false, false, false, false, false, false] rfl rfl (any_of HT_.out (by kernel_rfl)) (fun _ _ _ h => h) (Or.inl ⟨by rfl, ?_⟩) ?_ ?_
               rotate_left
               ·
                intro w'
                go_simp
                with_reducible rfl
               rotate_left
               ·
                simp only [Act.put, List.setIfInBounds_toArray, List.set_cons_zero, List.set_cons_succ, i64_w, i32_w]
                rfl
               refine take_ (i := 25) (N := some 89) (v := ?_) (a' := ?_) #[true, true, true, true, true, true, true, true, true, true, true, true, true, true, true, true, true, true, true, true, true, true, true, true, true, true, true, false, false, false, false, false, false, false, false, false, false, false] rfl rfl (take_ofW HT_.out HW_.out (by kernel_rfl)) (fun _ _ _ h => h) (Or.inl ⟨by rfl, ?_⟩) hHeld ?_ ?_
               rotate_left
               ·
                rintro w' ⟨s0, s1, s2, s3, s4, s5, s6, s7, s8, s9, s10, s11, s12, s13, s14, s15, s16, s17, s18, s19, s20, s21, s22, s23⟩
                go_simp
                with_reducible rfl
               rotate_left
               ·
                simp only [Act.put, List.setIfInBounds_toArray, List.set_cons_zero, List.set_cons_succ, i64_w, i32_w]
                rfl
               refine take_ (i := 27) (N := some 91) (v := ?_) (a' := ?_) #[true, true, true, true, true, true, true, true, true, true, true, true, true, true, true, true, true, true, true, true, true, true, true, true, true, true, true, true, false, false, false, false, false, false, false, false, false, false] rfl rfl (take_ofW HT_.out HW_.out (by kernel_rfl)) (fun _ _ _ h => h) (Or.inl ⟨by rfl, ?_⟩) hHeld ?_ ?_
               rotate_left
               ·
                rintro w' ⟨s0, s1, s2, s3, s4, s5, s6, s7, s8, s9, s10, s11, s12, s13, s14, s15, s16, s17, s18, s19, s20, s21, s22, s23⟩
                go_simp
                with_reducible rfl
               rotate_left
               ·
                simp only [Act.put, List.setIfInBounds_toArray, List.set_cons_zero, List.set_cons_succ, i64_w, i32_w]
                rfl
               refine pure_ (i := 28) (N := some 92) (v := ?_) (a' := ?_) #[true, true, true, true, true, true, true, true, true, true, true, true, true, true, true, true, true, true, true, true, true, true, true, true, true, true, true, true, true, false, false, false, false, false, false, false, false, false] rfl rfl (any_of HT_.out (by kernel_rfl)) (fun _ _ _ h => h) (Or.inl ⟨by rfl, ?_⟩) ?_ ?_
               rotate_left
               ·
                intro w'
                go_simp
                with_reducible rfl
               rotate_left
               ·
                simp only [Act.put, List.setIfInBounds_toArray, List.set_cons_zero, List.set_cons_succ, i64_w, i32_w]
                rfl
               refine pure_ (i := 29) (N := some 93) (v := ?_) (a' := ?_) #[true, true, true, true, true, true, true, true, true, true, true, true, true, true, true, true, true, true, true, true, true, true, true, true, true, true, true, true, true, true, false, false, false, false, false, false, false, false] rfl rfl (any_of HT_.out (by kernel_rfl)) (fun _ _ _ h => h) (Or.inl ⟨by rfl, ?_⟩) ?_ ?_
               rotate_left
               ·
                intro w'
                go_simp
                with_reducible rfl
               rotate_left
               ·
                simp only [Act.put, List.setIfInBounds_toArray, List.set_cons_zero, List.set_cons_succ, i64_w, i32_w]
                rfl
               refine pure_ (i := 30) (N := some 94) (v := ?_) (a' := ?_) #[true, true, true, true, true, true, true, true, true, true, true, true, true, true, true, true, true, true, true, true, true, true, true, true, true, true, true, true, true, true, true, false, false, false, false, false, false, false] rfl rfl (any_of HT_.out (by kernel_rfl)) (fun _ _ _ h => h) (Or.inl ⟨by rfl, ?_⟩) ?_ ?_
               rotate_left
               ·
                intro w'
                go_simp
                with_reducible rfl
               rotate_left
               ·
                simp only [Act.put, List.setIfInBounds_toArray, List.set_cons_zero, List.set_cons_succ, i64_w, i32_w]
                rfl
               refine pure_ (i := 31) (N := some 95) (v := ?_) (a' := ?_) #[true, true, true, true, true, true, true, true, true, true, true, true, true, true, true, true, true, true, true, true, true, true, true, true, true, true, true, true, true, true, true, true, false, false, false, false, false, false] rfl rfl (any_of HT_.out (by kernel_rfl)) (fun _ _ _ h => h) (Or.inl ⟨by rfl, ?_⟩) ?_ ?_
               rotate_left
               ·
                intro w'
                go_simp
                with_reducible rfl
               rotate_left
               ·
                simp only [Act.put, List.setIfInBounds_toArray, List.set_cons_zero, List.set_cons_succ, i64_w, i32_w]
                rfl
               refine pure_ (i := 33) (N := some 97) (v := ?_) (a' := ?_) #[true, true, true, true, true, true, true, true, true, true, true, true, true, true, true, true, true, true, true, true, true, true, true, true, true, true, true, true, true, true, true, true, false, true, false, false, false, false] rfl rfl (any_of HT_.out (by kernel_rfl)) (fun _ _ _ h => h) (Or.inl ⟨by rfl, ?_⟩) ?_ ?_
               rotate_left
               ·
                intro w'
                go_simp
                with_reducible rfl
               rotate_left
               ·
                simp only [Act.put, List.setIfInBounds_toArray, List.set_cons_zero, List.set_cons_succ, i64_w, i32_w]
                rfl
               refine take_ (i := 32) (N := some 96) (v := ?_) (a' := ?_) #[true, true, true, true, true, true, true, true, true, true, true, true, true, true, true, true, true, true, true, true, true, true, true, true, true, true, true, true, true, true, true, true, true, true, false, false, false, false] rfl rfl (take_ofW HT_.out HW_.out (by kernel_rfl)) (fun _ _ _ h => h) (Or.inl ⟨by rfl, ?_⟩) hHeld ?_ ?_
               rotate_left
               ·
                rintro w' ⟨s0, s1, s2, s3, s4, s5, s6, s7, s8, s9, s10, s11, s12, s13, s14, s15, s16, s17, s18, s19, s20, s21, s22, s23⟩
                go_simp
                with_reducible rfl
               rotate_left
               ·
                simp only [Act.put, List.setIfInBounds_toArray, List.set_cons_zero, List.set_cons_succ, i64_w, i32_w]
                rfl
               refine take_ (i := 34) (N := some 98) (v := ?_) (a' := ?_) #[true, true, true, true, true, true, true, true, true, true, true, true, true, true, true, true, true, true, true, true, true, true, true, true, true, true, true, true, true, true, true, true, true, true, true, false, false, false] rfl rfl (take_ofW HT_.out HW_.out (by kernel_rfl)) (fun _ _ _ h => h) (Or.inl ⟨by rfl, ?_⟩) hHeld ?_ ?_
               rotate_left
               ·
                rintro w' ⟨s0, s1, s2, s3, s4, s5, s6, s7, s8, s9, s10, s11, s12, s13, s14, s15, s16, s17, s18, s19, s20, s21, s22, s23⟩
                go_simp
                with_reducible rfl
               rotate_left
               ·
                simp only [Act.put, List.setIfInBounds_toArray, List.set_cons_zero, List.set_cons_succ, i64_w, i32_w]
                rfl
               refine pure_ (i := 35) (N := some 99) (v := ?_) (a' := ?_) #[true, true, true, true, true, true, true, true, true, true, true, true, true, true, true, true, true, true, true, true, true, true, true, true, true, true, true, true, true, true, true, true, true, true, true, true, false, false] rfl rfl (any_of HT_.out (by kernel_rfl)) (fun _ _ _ h => h) (Or.inl ⟨by rfl, ?_⟩) ?_ ?_
               rotate_left
               ·
                intro w'
                go_simp
                with_reducible rfl
               rotate_left
               ·
                simp only [Act.put, List.setIfInBounds_toArray, List.set_cons_zero, List.set_cons_succ, i64_w, i32_w]
                rfl
               refine pure_ (i := 36) (N := some 100) (v := ?_) (a' := ?_) #[true, true, true, true, true, true, true, true, true, true, true, true, true, true, true, true, true, true, true, true, true, true, true, true, true, true, true, true, true, true, true, true, true, true, true, true, true, false] rfl rfl (any_of HT_.out (by kernel_rfl)) (fun _ _ _ h => h) (Or.inl ⟨by rfl, ?_⟩) ?_ ?_
               rotate_left
               ·
                intro w'
                go_simp
                with_reducible rfl
               rotate_left
               ·
                simp only [Act.put, List.setIfInBounds_toArray, List.set_cons_zero, List.set_cons_succ, i64_w, i32_w]
                rfl
               refine pure_ (i := 37) (N := some 6) (v := ?_) (a' := ?_) #[true, true, true, true, true, true, true, true, true, true, true, true, true, true, true, true, true, true, true, true, true, true, true, true, true, true, true, true, true, true, true, true, true, true, true, true, true, true] rfl rfl (any_of HT_.out (by kernel_rfl)) (fun _ _ _ h => h) (Or.inl ⟨by rfl, ?_⟩) ?_ ?_
               rotate_left
               ·
                intro w'
                go_simp
                with_reducible rfl
               rotate_left
               ·
                simp only [Act.put, List.setIfInBounds_toArray, List.set_cons_zero, List.set_cons_succ, i64_w, i32_w]
                rfl
               refine done_ (done_of HT_.out (by kernel_rfl)) ?_
               try go_wp2
               go_ret
               exact ⟨by first | rfl | (simp [errW_none, errW_some] <;> rfl) | (simp only [← hji5]; first | rfl | (simp [errW_none, errW_some] <;> rfl)) | (simp [*, errW_none, errW_some] <;> rfl), by repeat (first | (with_reducible first | exact HB.out | apply below_alloc | apply pw_below_drewN | apply below_drew1 | refine below_set ?_ GE101.out | refine below_set ?_ GE120.out | refine below_set ?_ GE148.out | refine below_set ?_ GE165.out) | exact HB.out)⟩
              ·
               rw [if_neg c30] at H
               have c30b0 : (t145 == a1_5) = false := beq_eq_false_iff_ne.mpr c30
               have c30b1 : (t145 != a1_5) = true := bne_iff_ne.mpr c30
               exact Bool.noConfusion ((Option.some.inj H).trans HRT.out)
             ·
              rw [if_neg c29] at H
              have c29b0 : (t144 == a1_4) = false := beq_eq_false_iff_ne.mpr c29
              have c29b1 : (t144 != a1_4) = true := bne_iff_ne.mpr c29
              exact Bool.noConfusion ((Option.some.inj H).trans HRT.out)
            ·
             replace c28 := Bool.eq_false_iff.mpr c28
             subst c28
             have H1 : (some false) = some r := by rw [if_neg (show ¬ (false = true) by decide)] at H; exact H
             clear H
             have H := H1
             clear H1
             exact Bool.noConfusion ((Option.some.inj H).trans HRT.out)
           ·
            rw [if_neg c24] at H
            have c24b0 : (t164 == 0) = false := beq_eq_false_iff_ne.mpr c24
            have c24b1 : (t164 != 0) = true := bne_iff_ne.mpr c24
            exact Bool.noConfusion ((Option.some.inj H).trans HRT.out)
          ·
           rw [if_neg c23] at H
           have c23b0 : (t147 == 0) = false := beq_eq_false_iff_ne.mpr c23
           have c23b1 : (t147 != 0) = true := bne_iff_ne.mpr c23
           exact Bool.noConfusion ((Option.some.inj H).trans HRT.out)
         ·
          replace c22 := Bool.eq_false_iff.mpr c22
          subst c22
          have H1 : (some false) = some r := by rw [if_neg (show ¬ (false = true) by decide)] at H; exact H
          clear H
          have H := H1
          clear H1
          exact Bool.noConfusion ((Option.some.inj H).trans HRT.out)
        ·
         rw [if_neg c19] at H
         have c19b0 : (t119 == 0) = false := beq_eq_false_iff_ne.mpr c19
         have c19b1 : (t119 != 0) = true := bne_iff_ne.mpr c19
         by_cases c293 : t102 = true
         ·
          subst c293
          have H1 : ((longcaselaw06_ref.f t104 t107 t110 t113 t116).bind fun bt121 => ((longcaseref06_Same.f bt121.1 bt121.2.1 bt121.2.2.1 bt121.2.2.2.1 bt121.2.2.2.2 ([] : List (S56)) ([] : List (S54)) ([] : List (S67)) ([] : List Bool) ([] : List Bool)).bind fun t136 => (some t136))) = some r := by rw [if_pos rfl] at H; exact H
          clear H
          have H := H1
          clear H1
          replace H := Option.bind_eq_some_iff.mp H
          obtain ⟨⟨t121, t124, t127, t130, t133⟩, A2940, H⟩ := H
          replace H : ((longcaseref06_Same.f t121 t124 t127 t130 t133 ([] : List (S56)) ([] : List (S54)) ([] : List (S67)) ([] : List Bool) ([] : List Bool)).bind fun t136 => (some t136)) = some r := H
          have A294 := Aside0.mk A2940
          clear A2940
          replace H := Option.bind_eq_some_iff.mp H
          obtain ⟨t136, A2950, H⟩ := H
          replace H : (some t136) = some r := H
          have A295 := Aside0.mk A2950
          clear A2950
          obtain rfl := Option.some.inj H
          have hcz296_0 : wc.cell? ⟨gb101, 0, none⟩ = some (.int .i64 a1_0) := (blk_cell BK101.out 0).trans rfl
          have hcz296_1 : wc.cell? ⟨gb101, 1, none⟩ = some (.int .i64 a1_1) := (blk_cell BK101.out 1).trans rfl
          have hcz296_2 : wc.cell? ⟨gb101, 2, none⟩ = some (.int .i64 a1_2) := (blk_cell BK101.out 2).trans rfl
          have hcz296_3 : wc.cell? ⟨gb101, 3, none⟩ = some (.int .i64 a1_3) := (blk_cell BK101.out 3).trans rfl
          have hcz296_4 : wc.cell? ⟨gb101, 4, none⟩ = some (.int .i64 a1_4) := (blk_cell BK101.out 4).trans rfl
          have hcz296_5 : wc.cell? ⟨gb101, 5, none⟩ = some (.int .i64 a1_5) := (blk_cell BK101.out 5).trans rfl
          have hcz296_6 : wc.cell? ⟨gb101, 6, none⟩ = some (.int .i64 a1_6) := (blk_cell BK101.out 6).trans rfl
          have hfz296_0 := blk_frozen BK101.out 0
          have hfz296_1 := blk_frozen BK101.out 1
          have hfz296_2 := blk_frozen BK101.out 2
          have hfz296_3 := blk_frozen BK101.out 3
          have hfz296_4 := blk_frozen BK101.out 4
          have hfz296_5 := blk_frozen BK101.out 5
          have hfz296_6 := blk_frozen BK101.out 6
          go_wp2_with (first | ((with_reducible refine gate_callee (f := 21) rfl ?_); refine goesL_ (some 36) rfl rfl Try.func21 (by kernel_rfl) rfl #[.slice A0 (l0.take ((ji5) : Int).toNat).length c0, .agg #[.int .i64 a1_0, .int .i64 a1_1, .int .i64 a1_2, .int .i64 a1_3, .int .i64 a1_4, .int .i64 a1_5, .int .i64 a1_6], .int .i64 x8_7] rfl (by (try simp only [List.map_toArray, List.map_cons, List.map_nil]); first | done | (rw [show (l0.take ((ji5) : Int).toNat).length = (ji5).toNat from (by rw [List.length_take]; first | (have h_ : ((ji5) : Int) ≤ (l0.length : Int) := of_decide_eq_true (by first | (with_reducible assumption) | assumption); omega) | (have h_ := hji5_; (repeat' split at h_) <;> omega))] <;> rfl) | (simp only [hji5]; rfl) | rfl | (simp only [List.length_drop, List.length_take]; rfl)) ?_; (with_reducible refine (block_Decode.calls _ _ (l0.take ((ji5) : Int).toNat) a1_0 a1_1 a1_2 a1_3 a1_4 a1_5 a1_6 x8_7 t104 t107 t110 t113 t116 t119 _ ?side1 ?side2 A18.out).mono ?_); (case side1 => repeat (first | exact (Kd.C_below HR103.out HB.out) | (with_reducible refine Kd.C_alloc ?_ _) | (with_reducible refine Kd.C_drewN ?_ _) | (with_reducible refine Kd.C_drew ?_))); (case side2 => exact HC103.out); rintro e w297 ⟨v105, v108, v111, v114, v117, rfl, ho0, ho1, ho2, ho3, ho4, hb⟩; refine ⟨_, rfl, ?_⟩; have n0_ := Aside0.mk (Kd.R_lower ho0 (below_size (by repeat (first | (with_reducible first | exact HB.out | apply below_alloc | apply pw_below_drewN | apply below_drew1 | refine below_set ?_ GE101.out) | exact HB.out)))); have n1_ := Aside0.mk (Kd.R_lower ho1 (below_size (by repeat (first | (with_reducible first | exact HB.out | apply below_alloc | apply pw_below_drewN | apply below_drew1 | refine below_set ?_ GE101.out) | exact HB.out)))); have n2_ := Aside0.mk (Kd.R_lower ho2 (below_size (by repeat (first | (with_reducible first | exact HB.out | apply below_alloc | apply pw_below_drewN | apply below_drew1 | refine below_set ?_ GE101.out) | exact HB.out)))); have n3_ := Aside0.mk (Kd.R_lower ho3 (below_size (by repeat (first | (with_reducible first | exact HB.out | apply below_alloc | apply pw_below_drewN | apply below_drew1 | refine below_set ?_ GE101.out) | exact HB.out)))); have n4_ := Aside0.mk (Kd.R_lower ho4 (below_size (by repeat (first | (with_reducible first | exact HB.out | apply below_alloc | apply pw_below_drewN | apply below_drew1 | refine below_set ?_ GE101.out) | exact HB.out)))); have n5_ := Aside0.mk (blk_below (g := gb101) (o := .cells #[.int .i64 a1_0, .int .i64 a1_1, .int .i64 a1_2, .int .i64 a1_3, .int .i64 a1_4, .int .i64 a1_5, .int .i64 a1_6] 35 (0, 0)) (by (with_reducible repeat (first | refine blk_drewN ?_ _ | refine blk_drew ?_ | refine blk_alloc ?_ _)); exact BK101.out) hb); have n6_ := Aside0.mk (below_step (by repeat (first | (with_reducible first | exact HB.out | apply below_alloc | apply pw_below_drewN | apply below_drew1 | refine below_set ?_ GE101.out) | exact HB.out)) hb); clear BK101; clear HB; have HO106 := n0_; have HO109 := n1_; have HO112 := n2_; have HO115 := n3_; have HO118 := n4_; have BK101 := n5_; have HB := n6_; clear n0_ n1_ n2_ n3_ n4_ n5_ n6_; (try clear hb); (try clear hb2); (try clear hk); (try clear hi); (try clear ho0); (try clear ho1); (try clear ho2); (try clear ho3); (try clear ho4)) | ((with_reducible refine gate_dst (N := 9) rfl ?_); refine box_event ?hg (N := 9) ?hd (cs := #[.slice none 0 0, .slice none 0 0, .slice none 0 0, .slice none 0 0, .slice none 0 0]) (t := 27) ?hr ?_; (case hd => rfl); (case hg => rfl); (case hr => first | (go_simp; done) | (go_simp; rfl)); intro gb120 hg w298 hbox hb; have n0_ := Aside0.mk (Kd.R_below (by (with_reducible repeat (first | apply Kd.R_alloc | apply Kd.R_drewN | apply Kd.R_drew)); exact HO106.out) hb); have n1_ := Aside0.mk (Kd.R_below (by (with_reducible repeat (first | apply Kd.R_alloc | apply Kd.R_drewN | apply Kd.R_drew)); exact HO109.out) hb); have n2_ := Aside0.mk (Kd.R_below (by (with_reducible repeat (first | apply Kd.R_alloc | apply Kd.R_drewN | apply Kd.R_drew)); exact HO112.out) hb); have n3_ := Aside0.mk (Kd.R_below (by (with_reducible repeat (first | apply Kd.R_alloc | apply Kd.R_drewN | apply Kd.R_drew)); exact HO115.out) hb); have n4_ := Aside0.mk (Kd.R_below (by (with_reducible repeat (first | apply Kd.R_alloc | apply Kd.R_drewN | apply Kd.R_drew)); exact HO118.out) hb); have n5_ := Aside0.mk (blk_below (g := gb101) (o := .cells #[.int .i64 a1_0, .int .i64 a1_1, .int .i64 a1_2, .int .i64 a1_3, .int .i64 a1_4, .int .i64 a1_5, .int .i64 a1_6] 35 (0, 0)) (by (with_reducible repeat (first | refine blk_drewN ?_ _ | refine blk_drew ?_ | refine blk_alloc ?_ _)); exact BK101.out) hb); have n6_ := Aside0.mk (below_step (by repeat (first | (with_reducible first | exact HB.out | apply below_alloc | apply pw_below_drewN | apply below_drew1 | refine below_set ?_ GE101.out) | exact HB.out)) hb); have n7_ := Aside0.mk (hbox); have n8_ := Aside0.mk ((by rw [hg]; exact (below_size (by repeat (first | (with_reducible first | exact HB.out | apply below_alloc | apply pw_below_drewN | apply below_drew1 | refine below_set ?_ GE101.out) | exact HB.out))) : w.heap.size ≤ gb120)); have n9_ := Aside0.mk ((by rw [hg]; exact (below_size (by repeat (first | (with_reducible first | exact HB.out | apply below_alloc | apply pw_below_drewN | apply below_drew1 | refine below_set ?_ GE101.out) | exact HB.out))) : w.heap.size ≤ gb120)); have n10_ := Aside0.mk ((by rw [hg]; exact Nat.ne_of_lt (blk_lt (g := gb101) (o := .cells #[.int .i64 a1_0, .int .i64 a1_1, .int .i64 a1_2, .int .i64 a1_3, .int .i64 a1_4, .int .i64 a1_5, .int .i64 a1_6] 35 (0, 0)) (by (with_reducible repeat (first | refine blk_drewN ?_ _ | refine blk_drew ?_ | refine blk_alloc ?_ _)); exact BK101.out)) : gb101 ≠ gb120)); have n11_ := Aside0.mk ((by rw [hg]; exact Nat.ne_of_gt (blk_lt (g := gb101) (o := .cells #[.int .i64 a1_0, .int .i64 a1_1, .int .i64 a1_2, .int .i64 a1_3, .int .i64 a1_4, .int .i64 a1_5, .int .i64 a1_6] 35 (0, 0)) (by (with_reducible repeat (first | refine blk_drewN ?_ _ | refine blk_drew ?_ | refine blk_alloc ?_ _)); exact BK101.out)) : gb120 ≠ gb101)); clear HO106; clear HO109; clear HO112; clear HO115; clear HO118; clear BK101; clear HB; have HO106 := n0_; have HO109 := n1_; have HO112 := n2_; have HO115 := n3_; have HO118 := n4_; have BK101 := n5_; have HB := n6_; have BK120 := n7_; have GW120 := n8_; have GE120 := n9_; have NB101_120 := n10_; have NB120_101 := n11_; clear n0_ n1_ n2_ n3_ n4_ n5_ n6_ n7_ n8_ n9_ n10_ n11_; clear hb hbox hg; obtain ⟨Ao299, co299, eo299⟩ := Kd.R_slice HO106.out; subst eo299; have hnb300 := NB120_101.out; have hnc300 := NB101_120.out; have hcz301_0 : w298.cell? ⟨gb120, 0, none⟩ = some (.slice none 0 0) := (blk_cell BK120.out 0).trans rfl; have hcz301_1 : w298.cell? ⟨gb120, 1, none⟩ = some (.slice none 0 0) := (blk_cell BK120.out 1).trans rfl; have hcz301_2 : w298.cell? ⟨gb120, 2, none⟩ = some (.slice none 0 0) := (blk_cell BK120.out 2).trans rfl; have hcz301_3 : w298.cell? ⟨gb120, 3, none⟩ = some (.slice none 0 0) := (blk_cell BK120.out 3).trans rfl; have hcz301_4 : w298.cell? ⟨gb120, 4, none⟩ = some (.slice none 0 0) := (blk_cell BK120.out 4).trans rfl; have hfz301_0 := blk_frozen BK120.out 0; have hfz301_1 := blk_frozen BK120.out 1; have hfz301_2 := blk_frozen BK120.out 2; have hfz301_3 := blk_frozen BK120.out 3; have hfz301_4 := blk_frozen BK120.out 4; obtain ⟨Ao302, co302, eo302⟩ := Kd.R_slice HO109.out; subst eo302; obtain ⟨Ao303, co303, eo303⟩ := Kd.R_slice HO112.out; subst eo303; obtain ⟨Ao304, co304, eo304⟩ := Kd.R_slice HO115.out; subst eo304; obtain ⟨Ao305, co305, eo305⟩ := Kd.R_slice HO118.out; subst eo305) | (go_at_call 14; (with_reducible refine (longcaselaw06_ref.calls _ _ t104 _ _ t107 _ _ t110 _ _ t113 _ _ t116 t121 t124 t127 t130 t133 _ A294.out).mono ?_); rintro e w306 ⟨v122, v125, v128, v131, v134, rfl, ho0, ho1, ho2, ho3, ho4, hb⟩; have n0_ := Aside0.mk (Kd.R_below (by (with_reducible repeat (first | apply Kd.R_alloc | apply Kd.R_drewN | apply Kd.R_drew)); exact (Kd.R_mono (Kd.R_far (p := ⟨gb120, 4, none⟩) (Kd.R_far (p := ⟨gb120, 3, none⟩) (Kd.R_far (p := ⟨gb120, 2, none⟩) (Kd.R_far (p := ⟨gb120, 1, none⟩) (Kd.R_far (p := ⟨gb120, 0, none⟩) (Kd.R_types HO106.out BK120.out (by decide)) (fun _ hk => hk.2) (.slice Ao299 t104.length co299)) (fun _ hk => hk.2) (.slice Ao302 t107.length co302)) (fun _ hk => hk.2) (.slice Ao303 t110.length co303)) (fun _ hk => hk.2) (.slice Ao304 t113.length co304)) (fun _ hk => hk.2) (.slice Ao305 t116.length co305)) (fun _ h_ => h_.1))) hb); have n1_ := Aside0.mk (Kd.R_below (by (with_reducible repeat (first | apply Kd.R_alloc | apply Kd.R_drewN | apply Kd.R_drew)); exact (Kd.R_mono (Kd.R_far (p := ⟨gb120, 4, none⟩) (Kd.R_far (p := ⟨gb120, 3, none⟩) (Kd.R_far (p := ⟨gb120, 2, none⟩) (Kd.R_far (p := ⟨gb120, 1, none⟩) (Kd.R_far (p := ⟨gb120, 0, none⟩) (Kd.R_types HO109.out BK120.out (by decide)) (fun _ hk => hk.2) (.slice Ao299 t104.length co299)) (fun _ hk => hk.2) (.slice Ao302 t107.length co302)) (fun _ hk => hk.2) (.slice Ao303 t110.length co303)) (fun _ hk => hk.2) (.slice Ao304 t113.length co304)) (fun _ hk => hk.2) (.slice Ao305 t116.length co305)) (fun _ h_ => h_.1))) hb); have n2_ := Aside0.mk (Kd.R_below (by (with_reducible repeat (first | apply Kd.R_alloc | apply Kd.R_drewN | apply Kd.R_drew)); exact (Kd.R_mono (Kd.R_far (p := ⟨gb120, 4, none⟩) (Kd.R_far (p := ⟨gb120, 3, none⟩) (Kd.R_far (p := ⟨gb120, 2, none⟩) (Kd.R_far (p := ⟨gb120, 1, none⟩) (Kd.R_far (p := ⟨gb120, 0, none⟩) (Kd.R_types HO112.out BK120.out (by decide)) (fun _ hk => hk.2) (.slice Ao299 t104.length co299)) (fun _ hk => hk.2) (.slice Ao302 t107.length co302)) (fun _ hk => hk.2) (.slice Ao303 t110.length co303)) (fun _ hk => hk.2) (.slice Ao304 t113.length co304)) (fun _ hk => hk.2) (.slice Ao305 t116.length co305)) (fun _ h_ => h_.1))) hb); have n3_ := Aside0.mk (Kd.R_below (by (with_reducible repeat (first | apply Kd.R_alloc | apply Kd.R_drewN | apply Kd.R_drew)); exact (Kd.R_mono (Kd.R_far (p := ⟨gb120, 4, none⟩) (Kd.R_far (p := ⟨gb120, 3, none⟩) (Kd.R_far (p := ⟨gb120, 2, none⟩) (Kd.R_far (p := ⟨gb120, 1, none⟩) (Kd.R_far (p := ⟨gb120, 0, none⟩) (Kd.R_types HO115.out BK120.out (by decide)) (fun _ hk => hk.2) (.slice Ao299 t104.length co299)) (fun _ hk => hk.2) (.slice Ao302 t107.length co302)) (fun _ hk => hk.2) (.slice Ao303 t110.length co303)) (fun _ hk => hk.2) (.slice Ao304 t113.length co304)) (fun _ hk => hk.2) (.slice Ao305 t116.length co305)) (fun _ h_ => h_.1))) hb); have n4_ := Aside0.mk (Kd.R_below (by (with_reducible repeat (first | apply Kd.R_alloc | apply Kd.R_drewN | apply Kd.R_drew)); exact (Kd.R_mono (Kd.R_far (p := ⟨gb120, 4, none⟩) (Kd.R_far (p := ⟨gb120, 3, none⟩) (Kd.R_far (p := ⟨gb120, 2, none⟩) (Kd.R_far (p := ⟨gb120, 1, none⟩) (Kd.R_far (p := ⟨gb120, 0, none⟩) (Kd.R_types HO118.out BK120.out (by decide)) (fun _ hk => hk.2) (.slice Ao299 t104.length co299)) (fun _ hk => hk.2) (.slice Ao302 t107.length co302)) (fun _ hk => hk.2) (.slice Ao303 t110.length co303)) (fun _ hk => hk.2) (.slice Ao304 t113.length co304)) (fun _ hk => hk.2) (.slice Ao305 t116.length co305)) (fun _ h_ => h_.1))) hb); have n5_ := Aside0.mk (ho0 _ _ ((by (with_reducible repeat (first | apply Kd.R_alloc | apply Kd.R_drewN | apply Kd.R_drew)); exact (Kd.R_mono (Kd.R_far (p := ⟨gb120, 4, none⟩) (Kd.R_far (p := ⟨gb120, 3, none⟩) (Kd.R_far (p := ⟨gb120, 2, none⟩) (Kd.R_far (p := ⟨gb120, 1, none⟩) (Kd.R_far (p := ⟨gb120, 0, none⟩) (Kd.R_types HO106.out BK120.out (by decide)) (fun _ hk => hk.2) (.slice Ao299 t104.length co299)) (fun _ hk => hk.2) (.slice Ao302 t107.length co302)) (fun _ hk => hk.2) (.slice Ao303 t110.length co303)) (fun _ hk => hk.2) (.slice Ao304 t113.length co304)) (fun _ hk => hk.2) (.slice Ao305 t116.length co305)) (fun _ h_ => h_.1))))); have n6_ := Aside0.mk (ho1 _ _ ((by (with_reducible repeat (first | apply Kd.R_alloc | apply Kd.R_drewN | apply Kd.R_drew)); exact (Kd.R_mono (Kd.R_far (p := ⟨gb120, 4, none⟩) (Kd.R_far (p := ⟨gb120, 3, none⟩) (Kd.R_far (p := ⟨gb120, 2, none⟩) (Kd.R_far (p := ⟨gb120, 1, none⟩) (Kd.R_far (p := ⟨gb120, 0, none⟩) (Kd.R_types HO109.out BK120.out (by decide)) (fun _ hk => hk.2) (.slice Ao299 t104.length co299)) (fun _ hk => hk.2) (.slice Ao302 t107.length co302)) (fun _ hk => hk.2) (.slice Ao303 t110.length co303)) (fun _ hk => hk.2) (.slice Ao304 t113.length co304)) (fun _ hk => hk.2) (.slice Ao305 t116.length co305)) (fun _ h_ => h_.1))))); have n7_ := Aside0.mk (ho2 _ _ ((by (with_reducible repeat (first | apply Kd.R_alloc | apply Kd.R_drewN | apply Kd.R_drew)); exact (Kd.R_mono (Kd.R_far (p := ⟨gb120, 4, none⟩) (Kd.R_far (p := ⟨gb120, 3, none⟩) (Kd.R_far (p := ⟨gb120, 2, none⟩) (Kd.R_far (p := ⟨gb120, 1, none⟩) (Kd.R_far (p := ⟨gb120, 0, none⟩) (Kd.R_types HO112.out BK120.out (by decide)) (fun _ hk => hk.2) (.slice Ao299 t104.length co299)) (fun _ hk => hk.2) (.slice Ao302 t107.length co302)) (fun _ hk => hk.2) (.slice Ao303 t110.length co303)) (fun _ hk => hk.2) (.slice Ao304 t113.length co304)) (fun _ hk => hk.2) (.slice Ao305 t116.length co305)) (fun _ h_ => h_.1))))); have n8_ := Aside0.mk (ho3 _ _ ((by (with_reducible repeat (first | apply Kd.R_alloc | apply Kd.R_drewN | apply Kd.R_drew)); exact (Kd.R_mono (Kd.R_far (p := ⟨gb120, 4, none⟩) (Kd.R_far (p := ⟨gb120, 3, none⟩) (Kd.R_far (p := ⟨gb120, 2, none⟩) (Kd.R_far (p := ⟨gb120, 1, none⟩) (Kd.R_far (p := ⟨gb120, 0, none⟩) (Kd.R_types HO115.out BK120.out (by decide)) (fun _ hk => hk.2) (.slice Ao299 t104.length co299)) (fun _ hk => hk.2) (.slice Ao302 t107.length co302)) (fun _ hk => hk.2) (.slice Ao303 t110.length co303)) (fun _ hk => hk.2) (.slice Ao304 t113.length co304)) (fun _ hk => hk.2) (.slice Ao305 t116.length co305)) (fun _ h_ => h_.1))))); have n9_ := Aside0.mk (ho4 _ _ ((by (with_reducible repeat (first | apply Kd.R_alloc | apply Kd.R_drewN | apply Kd.R_drew)); exact (Kd.R_mono (Kd.R_far (p := ⟨gb120, 4, none⟩) (Kd.R_far (p := ⟨gb120, 3, none⟩) (Kd.R_far (p := ⟨gb120, 2, none⟩) (Kd.R_far (p := ⟨gb120, 1, none⟩) (Kd.R_far (p := ⟨gb120, 0, none⟩) (Kd.R_types HO118.out BK120.out (by decide)) (fun _ hk => hk.2) (.slice Ao299 t104.length co299)) (fun _ hk => hk.2) (.slice Ao302 t107.length co302)) (fun _ hk => hk.2) (.slice Ao303 t110.length co303)) (fun _ hk => hk.2) (.slice Ao304 t113.length co304)) (fun _ hk => hk.2) (.slice Ao305 t116.length co305)) (fun _ h_ => h_.1))))); have n10_ := Aside0.mk (blk_below (g := gb101) (o := .cells #[.int .i64 a1_0, .int .i64 a1_1, .int .i64 a1_2, .int .i64 a1_3, .int .i64 a1_4, .int .i64 a1_5, .int .i64 a1_6] 35 (0, 0)) (by (with_reducible repeat (first | refine blk_drewN ?_ _ | refine blk_drew ?_ | refine blk_alloc ?_ _)); refine blk_far ?_ NB101_120.out _; (with_reducible repeat (first | refine blk_drewN ?_ _ | refine blk_drew ?_ | refine blk_alloc ?_ _)); refine blk_far ?_ NB101_120.out _; (with_reducible repeat (first | refine blk_drewN ?_ _ | refine blk_drew ?_ | refine blk_alloc ?_ _)); refine blk_far ?_ NB101_120.out _; (with_reducible repeat (first | refine blk_drewN ?_ _ | refine blk_drew ?_ | refine blk_alloc ?_ _)); refine blk_far ?_ NB101_120.out _; (with_reducible repeat (first | refine blk_drewN ?_ _ | refine blk_drew ?_ | refine blk_alloc ?_ _)); refine blk_far ?_ NB101_120.out _; (with_reducible repeat (first | refine blk_drewN ?_ _ | refine blk_drew ?_ | refine blk_alloc ?_ _)); exact BK101.out) hb); have n11_ := Aside0.mk (blk_below (g := gb120) (o := .cells #[.slice Ao299 t104.length co299, .slice Ao302 t107.length co302, .slice Ao303 t110.length co303, .slice Ao304 t113.length co304, .slice Ao305 t116.length co305] 27 (0, 0)) (by (with_reducible repeat (first | refine blk_drewN ?_ _ | refine blk_drew ?_ | refine blk_alloc ?_ _)); refine blk_put (cs := #[.slice Ao299 t104.length co299, .slice Ao302 t107.length co302, .slice Ao303 t110.length co303, .slice Ao304 t113.length co304, .slice none 0 0]) ?_ 4 _ rfl; (with_reducible repeat (first | refine blk_drewN ?_ _ | refine blk_drew ?_ | refine blk_alloc ?_ _)); refine blk_put (cs := #[.slice Ao299 t104.length co299, .slice Ao302 t107.length co302, .slice Ao303 t110.length co303, .slice none 0 0, .slice none 0 0]) ?_ 3 _ rfl; (with_reducible repeat (first | refine blk_drewN ?_ _ | refine blk_drew ?_ | refine blk_alloc ?_ _)); refine blk_put (cs := #[.slice Ao299 t104.length co299, .slice Ao302 t107.length co302, .slice none 0 0, .slice none 0 0, .slice none 0 0]) ?_ 2 _ rfl; (with_reducible repeat (first | refine blk_drewN ?_ _ | refine blk_drew ?_ | refine blk_alloc ?_ _)); refine blk_put (cs := #[.slice Ao299 t104.length co299, .slice none 0 0, .slice none 0 0, .slice none 0 0, .slice none 0 0]) ?_ 1 _ rfl; (with_reducible repeat (first | refine blk_drewN ?_ _ | refine blk_drew ?_ | refine blk_alloc ?_ _)); refine blk_put (cs := #[.slice none 0 0, .slice none 0 0, .slice none 0 0, .slice none 0 0, .slice none 0 0]) ?_ 0 _ rfl; (with_reducible repeat (first | refine blk_drewN ?_ _ | refine blk_drew ?_ | refine blk_alloc ?_ _)); exact BK120.out) hb); have n12_ := Aside0.mk (below_step (by repeat (first | (with_reducible first | exact HB.out | apply below_alloc | apply pw_below_drewN | apply below_drew1 | refine below_set ?_ GE101.out | refine below_set ?_ GE120.out) | exact HB.out)) hb); clear HO106; clear HO109; clear HO112; clear HO115; clear HO118; clear BK101; clear BK120; clear HB; have HO106 := n0_; have HO109 := n1_; have HO112 := n2_; have HO115 := n3_; have HO118 := n4_; have HO123 := n5_; have HO126 := n6_; have HO129 := n7_; have HO132 := n8_; have HO135 := n9_; have BK101 := n10_; have BK120 := n11_; have HB := n12_; clear n0_ n1_ n2_ n3_ n4_ n5_ n6_ n7_ n8_ n9_ n10_ n11_ n12_; (try clear hb); (try clear hb2); (try clear hk); (try clear hi); (try clear ho0); (try clear ho1); (try clear ho2); (try clear ho3); (try clear ho4); obtain ⟨Ao307, co307, eo307⟩ := Kd.R_slice HO123.out; subst eo307; obtain ⟨Ao308, co308, eo308⟩ := Kd.R_slice HO126.out; subst eo308; obtain ⟨Ao309, co309, eo309⟩ := Kd.R_slice HO129.out; subst eo309; obtain ⟨Ao310, co310, eo310⟩ := Kd.R_slice HO132.out; subst eo310; obtain ⟨Ao311, co311, eo311⟩ := Kd.R_slice HO135.out; subst eo311) | (go_at_call 17; (refine (longcaseref06_Same.calls _ _ t121 _ _ t124 _ _ t127 _ _ t130 _ _ t133 _ _ ([] : List (S56)) _ _ ([] : List (S54)) _ _ ([] : List (S67)) _ _ ([] : List Bool) _ _ ([] : List Bool) t136 _ ?side1 ?side2 ?side3 ?side4 ?side5 ?side6 ?side7 ?side8 ?side9 ?side10 ?side11 ?side12 ?side13 ?side14 ?side15 ?side16 ?side17 ?side18 ?side19 ?side20 A295.out).mono ?_); (case side1 => repeat (first | exact (Kd.R_reads' HO123.out).2.2 | (with_reducible refine Kd.C_alloc ?_ _) | (with_reducible refine Kd.C_drewN ?_ _) | (with_reducible refine Kd.C_drew ?_))); (case side2 => exact (Kd.R_reads' HO123.out).2.1); (case side3 => repeat (first | exact (Kd.R_reads' HO126.out).2.2 | (with_reducible refine Kd.C_alloc ?_ _) | (with_reducible refine Kd.C_drewN ?_ _) | (with_reducible refine Kd.C_drew ?_))); (case side4 => exact (Kd.R_reads' HO126.out).2.1); (case side5 => repeat (first | exact (Kd.R_reads' HO129.out).2.2 | (with_reducible refine Kd.C_alloc ?_ _) | (with_reducible refine Kd.C_drewN ?_ _) | (with_reducible refine Kd.C_drew ?_))); (case side6 => exact (Kd.R_reads' HO129.out).2.1); (case side7 => repeat (first | exact (Kd.R_reads' HO132.out).2.2 | (with_reducible refine Kd.C_alloc ?_ _) | (with_reducible refine Kd.C_drewN ?_ _) | (with_reducible refine Kd.C_drew ?_))); (case side8 => exact (Kd.R_reads' HO132.out).2.1); (case side9 => repeat (first | exact (Kd.R_reads' HO135.out).2.2 | (with_reducible refine Kd.C_alloc ?_ _) | (with_reducible refine Kd.C_drewN ?_ _) | (with_reducible refine Kd.C_drew ?_))); (case side10 => exact (Kd.R_reads' HO135.out).2.1); (case side11 => exact Kd.C_nil _ _); (case side12 => exact Nat.le_refl _); (case side13 => exact Kd.C_nil _ _); (case side14 => exact Nat.le_refl _); (case side15 => exact Kd.C_nil _ _); (case side16 => exact Nat.le_refl _); (case side17 => exact Kd.C_nil _ _); (case side18 => exact Nat.le_refl _); (case side19 => exact Kd.C_nil _ _); (case side20 => exact Nat.le_refl _); rintro e w312 ⟨rfl, hb⟩; have n0_ := Aside0.mk (Kd.R_below (by (with_reducible repeat (first | apply Kd.R_alloc | apply Kd.R_drewN | apply Kd.R_drew)); exact HO106.out) hb); have n1_ := Aside0.mk (Kd.R_below (by (with_reducible repeat (first | apply Kd.R_alloc | apply Kd.R_drewN | apply Kd.R_drew)); exact HO109.out) hb); have n2_ := Aside0.mk (Kd.R_below (by (with_reducible repeat (first | apply Kd.R_alloc | apply Kd.R_drewN | apply Kd.R_drew)); exact HO112.out) hb); have n3_ := Aside0.mk (Kd.R_below (by (with_reducible repeat (first | apply Kd.R_alloc | apply Kd.R_drewN | apply Kd.R_drew)); exact HO115.out) hb); have n4_ := Aside0.mk (Kd.R_below (by (with_reducible repeat (first | apply Kd.R_alloc | apply Kd.R_drewN | apply Kd.R_drew)); exact HO118.out) hb); have n5_ := Aside0.mk (Kd.R_below (by (with_reducible repeat (first | apply Kd.R_alloc | apply Kd.R_drewN | apply Kd.R_drew)); exact HO123.out) hb); have n6_ := Aside0.mk (Kd.R_below (by (with_reducible repeat (first | apply Kd.R_alloc | apply Kd.R_drewN | apply Kd.R_drew)); exact HO126.out) hb); have n7_ := Aside0.mk (Kd.R_below (by (with_reducible repeat (first | apply Kd.R_alloc | apply Kd.R_drewN | apply Kd.R_drew)); exact HO129.out) hb); have n8_ := Aside0.mk (Kd.R_below (by (with_reducible repeat (first | apply Kd.R_alloc | apply Kd.R_drewN | apply Kd.R_drew)); exact HO132.out) hb); have n9_ := Aside0.mk (Kd.R_below (by (with_reducible repeat (first | apply Kd.R_alloc | apply Kd.R_drewN | apply Kd.R_drew)); exact HO135.out) hb); have n10_ := Aside0.mk (blk_below (g := gb101) (o := .cells #[.int .i64 a1_0, .int .i64 a1_1, .int .i64 a1_2, .int .i64 a1_3, .int .i64 a1_4, .int .i64 a1_5, .int .i64 a1_6] 35 (0, 0)) (by (with_reducible repeat (first | refine blk_drewN ?_ _ | refine blk_drew ?_ | refine blk_alloc ?_ _)); exact BK101.out) hb); have n11_ := Aside0.mk (blk_below (g := gb120) (o := .cells #[.slice Ao299 t104.length co299, .slice Ao302 t107.length co302, .slice Ao303 t110.length co303, .slice Ao304 t113.length co304, .slice Ao305 t116.length co305] 27 (0, 0)) (by (with_reducible repeat (first | refine blk_drewN ?_ _ | refine blk_drew ?_ | refine blk_alloc ?_ _)); exact BK120.out) hb); have n12_ := Aside0.mk (below_step (by repeat (first | (with_reducible first | exact HB.out | apply below_alloc | apply pw_below_drewN | apply below_drew1 | refine below_set ?_ GE101.out | refine below_set ?_ GE120.out) | exact HB.out)) hb); clear HO106; clear HO109; clear HO112; clear HO115; clear HO118; clear HO123; clear HO126; clear HO129; clear HO132; clear HO135; clear BK101; clear BK120; clear HB; have HO106 := n0_; have HO109 := n1_; have HO112 := n2_; have HO115 := n3_; have HO118 := n4_; have HO123 := n5_; have HO126 := n6_; have HO129 := n7_; have HO132 := n8_; have HO135 := n9_; have BK101 := n10_; have BK120 := n11_; have HB := n12_; clear n0_ n1_ n2_ n3_ n4_ n5_ n6_ n7_ n8_ n9_ n10_ n11_ n12_; (try clear hb); (try clear hb2); (try clear hk); (try clear hi)))
          go_ret
          exact ⟨by first | rfl | (simp [errW_none, errW_some] <;> rfl) | (simp only [← hji5]; first | rfl | (simp [errW_none, errW_some] <;> rfl)) | (simp [*, errW_none, errW_some] <;> rfl), by repeat (first | (with_reducible first | exact HB.out | apply below_alloc | apply pw_below_drewN | apply below_drew1 | refine below_set ?_ GE101.out | refine below_set ?_ GE120.out) | exact HB.out)⟩
         ·
          replace c293 := Bool.eq_false_iff.mpr c293
          subst c293
          have H1 : (some false) = some r := by rw [if_neg (show ¬ (false = true) by decide)] at H; exact H
          clear H
          have H := H1
          clear H1
          exact Bool.noConfusion ((Option.some.inj H).trans HRT.out)
  ·
   rw [if_neg c7] at H
   exact absurd H (by simp)
 ·
  rw [if_neg c6] at H
  exact absurd H (by simp)
end Go.Proofs.Ythobnoknbdljgaa.PL1
end
section
namespace Go.Proofs.Ythobnoknbdljgaa
open Go.RowKit Hand PB0 Go.Proofs.YthobnoknbdljgaaW.PrintWords Oct
structure NmInv (st : NmS) (l : List ByteArray) : Prop where
 place : ∀ s p, st.2.1 s = some p → ∃ pre post : List UInt8, st.1 = pre ++ s.data.toList ++ 0 :: post ∧ pre.length = p
 at_ : ∀ i (h : i < l.length), ∃ p, st.2.1 l[i] = some p ∧ st.2.2[i]? = some ((p : Int) % 256)
 len : st.2.2.length = l.length
theorem nm_inv (l : List ByteArray) : NmInv (nmSt l) l := by
 induction l using rev_ind with
 | h0 => exact ⟨fun s p h => (by cases h), fun i h => absurd h (Nat.not_lt_zero i), rfl⟩
 | hs l s ih =>
  rw [nmSt_snoc]
  have fin : ∀ (st' : NmS) (p : Nat), st'.2.1 s = some p → (∀ t q, (nmSt l).2.1 t = some q → st'.2.1 t = some q) → st'.2.2 = (nmSt l).2.2 ++ [((p : Nat) : Int) % 256] →
    (∀ s p, st'.2.1 s = some p → ∃ pre post : List UInt8, st'.1 = pre ++ s.data.toList ++ 0 :: post ∧ pre.length = p) → NmInv st' (l ++ [s]) := by
   intro st' p h1 h2 h3 h4
   refine ⟨h4, ?_, by rw [h3, List.length_append, List.length_append, ih.len]; rfl⟩
   intro i hi
   rw [List.length_append] at hi
   by_cases hlt : i < l.length
   ·
    obtain ⟨q, hq, hat⟩ := ih.at_ i hlt
    refine ⟨q, ?_, ?_⟩
    ·
     rw [List.getElem_append_left hlt]
     exact h2 _ _ hq
    ·
     rw [h3, List.getElem?_append_left (by rw [ih.len]; exact hlt)]
     exact hat
   ·
    have e : i = l.length := by simp at hi; omega
    subst e
    refine ⟨p, ?_, ?_⟩
    ·
     rw [List.getElem_append_right (Nat.le_refl _)]
     simpa using h1
    ·
     rw [h3, List.getElem?_append_right (by rw [ih.len]; exact Nat.le_refl _), ih.len]
     simp
  unfold nmStep
  split
  ·
   rename_i p hp
   exact fin _ p hp (fun t q h => h) rfl ih.place
  ·
   rename_i hn
   refine fin _ (nmSt l).1.length (by dsimp only; rw [if_pos rfl]) ?_ rfl ?_
   ·
    intro t q h
    dsimp only
    rw [if_neg (fun e => by rw [e, hn] at h; cases h)]
    exact h
   ·
    intro t q h
    dsimp only at h ⊢
    by_cases e : t = s
    ·
     subst e
     rw [if_pos rfl] at h
     injection h with h
     subst h
     exact ⟨(nmSt l).1, [], by simp, rfl⟩
    ·
     rw [if_neg e] at h
     obtain ⟨pre, post, h1, h2⟩ := ih.place t q h
     exact ⟨pre, post ++ s.data.toList ++ [0], by rw [h1]; simp, h2⟩
theorem idx_none (l : List UInt8) (h : Lib.indexByte l 0 < 0) : ∀ x ∈ l, x ≠ 0 := by
 induction l with
 | nil => intro x hx; cases hx
 | cons b l ih =>
  intro x hx
  rw [Lib.indexByte] at h
  by_cases hb : (b == 0) = true
  ·
   rw [if_pos hb] at h
   exact absurd h (by decide)
  ·
   rw [if_neg hb] at h
   by_cases hc : (Lib.indexByte l 0 == -1) = true
   ·
    rcases List.mem_cons.1 hx with rfl | hx
    ·
     intro e; rw [e] at hb; exact hb rfl
    ·
     exact ih (by rw [eq_of_beq hc]; decide) x hx
   ·
    rw [if_neg hc] at h
    rcases List.mem_cons.1 hx with rfl | hx
    ·
     intro e; rw [e] at hb; exact hb rfl
    ·
     exact ih (by omega) x hx
theorem idx_at (l post : List UInt8) (h : ∀ x ∈ l, x ≠ 0) : Lib.indexByte (l ++ 0 :: post) 0 = l.length := by
 induction l with
 | nil => rfl
 | cons b l ih =>
  rw [List.cons_append, Lib.indexByte, if_neg (by
   intro e
   exact h b (List.mem_cons_self ..) (eq_of_beq e)), ih (fun x hx => h x (List.mem_cons_of_mem _ hx))]
  rw [if_neg (by intro e; have := eq_of_beq e; omega), List.length_cons]
  omega
theorem bytes_back (l : List UInt8) : Lib.bytesOf (l.map fun b => (b.toNat : Int)) = l := by
 unfold Lib.bytesOf
 rw [List.map_map]
 conv => rhs; rw [← List.map_id l]
 apply List.map_congr_left
 intro b _
 simp
theorem name_at (all pre post : List UInt8) (s : ByteArray) (p : Nat) (h1 : all = pre ++ s.data.toList ++ 0 :: post) (h2 : pre.length = p) (hs : Lib.indexByte s.data.toList 0 < 0) :
  nameI (bytesOf ⟨all.toArray⟩) (p : Int) = (s, true) := by
 have hz := idx_none _ hs
 have hb : bytesOf ⟨all.toArray⟩ = all.map fun b => (b.toNat : Int) := rfl
 have hl : p ≤ (bytesOf ⟨all.toArray⟩).length := by rw [hb, List.length_map, h1, List.length_append, List.length_append]; omega
 have hd : (bytesOf ⟨all.toArray⟩).drop p = (s.data.toList ++ 0 :: post).map fun b => (b.toNat : Int) := by
  rw [hb, ← List.map_drop, h1, List.append_assoc, List.drop_append_of_le_length (by omega), List.drop_of_length_le (by omega), List.nil_append]
 unfold nameI
 rw [if_neg (by omega), if_neg (by omega), Int.toNat_natCast, hd, bytes_back, idx_at _ _ hz, if_neg (by omega), Int.toNat_natCast]
 have ht : List.take s.data.toList.length (List.map (fun b : UInt8 => (b.toNat : Int)) (s.data.toList ++ 0 :: post)) = s.data.toList.map fun b => (b.toNat : Int) := by
  rw [← List.map_take, List.take_append_of_le_length (Nat.le_refl _), List.take_length]
 rw [ht]
 refine Prod.ext ?_ rfl
 dsimp only
 have e := Lib.strOfNums_toList (s.data.toList.map fun b => (b.toNat : Int))
 rw [bytes_back, ByteArray.toList_eq] at e
 obtain ⟨⟨s⟩⟩ := s
 generalize strOfNums _ = y at e ⊢
 obtain ⟨⟨y⟩⟩ := y
 simp only at e
 rw [e]
def fit (m : Nat) (n : Int) : Prop := -(256 ^ m) ≤ 2 * n ∧ 2 * n < 256 ^ m
theorem fit4 {n : Int} : fit 4 n ↔ -2147483648 ≤ n ∧ n ≤ 2147483647 := by unfold fit; rw [q4]; omega
theorem fit8 {n : Int} : fit 8 n ↔ -9223372036854775808 ≤ n ∧ n ≤ 9223372036854775807 := by unfold fit; rw [q8]; omega
theorem num_back (m : Nat) (hm : m = 4 ∨ m = 8) (n : Int) (h : fit m n) (rest : List Int) : numU m (be m (u64w n) ++ rest) = n := by
 unfold numU u64w
 rw [List.take_append_of_le_length (by rw [be_len]; exact Nat.le_refl _), List.take_of_length_le (by rw [be_len]; exact Nat.le_refl _), uval_bval _ (be_bytes m _) (by rw [be_len]; omega), bval_be]
 have hp := pow_pos' m
 have h0 := Int.emod_nonneg (IntKind.u64.wrap n) (b := 256 ^ m) (by omega)
 have h1 := Int.emod_lt_of_pos (IntKind.u64.wrap n) (b := 256 ^ m) hp
 rw [sgn_val m (by omega) (by omega) _ h0 h1, IntKind.wrap_u64]
 rcases hm with rfl | rfl
 ·
  rw [fit4] at h
  rw [q4]
  split <;> omega
 ·
  rw [fit8] at h
  rw [q8]
  split <;> omega
theorem numU_fit (m : Nat) (hm : m = 4 ∨ m = 8) (bs : List Int) (hb : Bytes bs) : fit m (numU m bs) := by
 unfold numU
 have hbt := hb.take m
 have hlt : (bs.take m).length ≤ m := by rw [List.length_take]; omega
 rw [uval_bval _ hbt (by omega)]
 have h := bval_bd _ hbt
 have hp := pow_mono' hlt
 rw [sgn_val m (by omega) (by omega) _ h.1 (by omega)]
 unfold fit
 split <;> omega
end Go.Proofs.Ythobnoknbdljgaa
end
section
namespace Go.Proofs.Ythobnoknbdljgaa
open Go.RowKit Hand PB0 Go.Proofs.YthobnoknbdljgaaW.PrintWords Oct
theorem drop_pre (X Y : List Int) (p q : Nat) (h : X.length = p) : (X ++ Y).drop (p + q) = Y.drop q := by
 subst h
 rw [← List.drop_drop, List.drop_append_of_le_length (Nat.le_refl _), List.drop_of_length_le (Nat.le_refl _), List.nil_append]
theorem flat_drop {α : Type} (f : α → List Int) (c : Nat) (l : List α) (h : ∀ x ∈ l, (f x).length = c) (i : Nat) (hi : i ≤ l.length) : (l.flatMap f).drop (c * i) = (l.drop i).flatMap f := by
 induction i generalizing l with
 | zero => simp
 | succ i ih =>
  cases l with
  | nil => simp at hi
  | cons x l =>
   have hx := h x (List.mem_cons_self ..)
   rw [List.flatMap_cons, List.drop_succ_cons, Nat.mul_succ, Nat.add_comm, drop_pre _ _ c (c * i) hx]
   exact ih l (fun y hy => h y (List.mem_cons_of_mem _ hy)) (by simp at hi; omega)
theorem flat_at {α : Type} (f : α → List Int) (c : Nat) (l : List α) (h : ∀ x ∈ l, (f x).length = c) (i : Nat) (hi : i < l.length) (rest : List Int) :
  (l.flatMap f ++ rest).drop (c * i) = f l[i] ++ ((l.drop (i + 1)).flatMap f ++ rest) := by
 have hl : (l.flatMap f).length = c * l.length := by
  rw [List.length_flatMap]
  clear hi
  induction l with
  | nil => rfl
  | cons x l ih => rw [List.map_cons, List.sum_cons, h x (List.mem_cons_self ..), ih (fun y hy => h y (List.mem_cons_of_mem _ hy)), List.length_cons, Nat.mul_succ, Nat.add_comm]
 have hc : c * i ≤ c * l.length := Nat.mul_le_mul_left c (Nat.le_of_lt hi)
 rw [List.drop_append_of_le_length (by omega), flat_drop f c l h i (Nat.le_of_lt hi), List.drop_eq_getElem_cons hi, List.flatMap_cons, List.append_assoc]
theorem flat_length {α : Type} (f : α → List Int) (c : Nat) (l : List α) (h : ∀ x ∈ l, (f x).length = c) : (l.flatMap f).length = c * l.length := by
 rw [List.length_flatMap]
 induction l with
 | nil => rfl
 | cons x l ih => rw [List.map_cons, List.sum_cons, h x (List.mem_cons_self ..), ih (fun y hy => h y (List.mem_cons_of_mem _ hy)), List.length_cons, Nat.mul_succ, Nat.add_comm]
theorem rd_zero (x : Int) (xs : List Int) : rd (x :: xs) 0 = x := rfl
theorem fits_fit {m : Nat} (hm : m = 4 ∨ m = 8) {n : Int} (h8 : fit 8 n) (hf : fitsB n m = true) : fit m n := by
 rcases hm with rfl | rfl
 ·
  unfold fitsB at hf
  rw [if_pos (show ((4 : Nat) : Int) = 4 from rfl)] at hf
  have e := eq_of_beq hf
  rw [fit4]
  rw [fit8] at h8
  unfold wrap64 wrap32 at e
  omega
 ·
  exact h8
theorem all_at {n : Nat} {f : Nat → Bool} (h : (List.range n).all f = true) {i : Nat} (hi : i < n) : f i = true := List.all_eq_true.mp h i (List.mem_range.2 hi)
theorem corr_bd (size version : Int) (l : List S67) (hw : ∀ x ∈ l, fit 8 x.f1) (h : leapedB size version l = true) : ∀ i (hi : i < l.length), -(i + 1 : Int) ≤ l[i].f1 ∧ l[i].f1 ≤ i + 1 := by
 unfold leapedB at h
 rw [Bool.and_eq_true, decide_eq_true_eq] at h
 intro i
 induction i with
 | zero =>
  intro hi
  have h0 := all_at h.1 hi
  have hw0 := fit8.1 (hw l[0] (List.getElem_mem hi))
  unfold lokB at h0
  simp only [Bool.and_eq_true, Bool.or_eq_true, beq_iff_eq] at h0
  obtain ⟨⟨_, hs⟩, _⟩ := h0
  have e : rd_T67 l ((0 : Nat) : Int) = l[0] := rd67 l 0 hi
  have es : stepL l 0 = wrap64 (l[0].f1 - 0) := by unfold stepL wasL; rw [e, if_pos rfl]
  have hq : wrap64 (l[0].f1 - 0) = l[0].f1 := by rw [Hand.w64 (by omega) (by omega)]; omega
  rw [es, hq] at hs
  rcases hs with (hs | hs) | hs
  ·
   omega
  ·
   omega
  ·
   unfold lastL at hs; simp at hs
 | succ i ih =>
  intro hi
  have hp := ih (by omega)
  have h0 := all_at h.1 hi
  have hw0 := fit8.1 (hw l[i + 1] (List.getElem_mem hi))
  have hw1 := fit8.1 (hw l[i] (List.getElem_mem (by omega)))
  have hlen := h.2
  unfold lokB at h0
  simp only [Bool.and_eq_true, Bool.or_eq_true, beq_iff_eq] at h0
  obtain ⟨⟨_, hs⟩, _⟩ := h0
  have e : rd_T67 l ((i + 1 : Nat) : Int) = l[i + 1] := rd67 l (i + 1) hi
  have e2 : rd_T67 l (((i + 1 - 1 : Nat)) : Int) = l[i] := rd67 l i (by omega)
  have es : stepL l (i + 1) = wrap64 (l[i + 1].f1 - l[i].f1) := by unfold stepL wasL; rw [e, if_neg (by omega), e2]
  have hx : stepL l (i + 1) = 1 ∨ stepL l (i + 1) = -1 ∨ stepL l (i + 1) = 0 := by
   rcases hs with (hs | hs) | hs
   ·
    exact .inl hs
   ·
    exact .inr (.inl hs)
   ·
    unfold lastL at hs
    simp only [Bool.and_eq_true, beq_iff_eq] at hs
    exact .inr (.inr hs.2)
  rw [es] at hx
  unfold wrap64 at hx
  omega
theorem encL_len (m : Nat) (K : List S56) (J : List S54) (L : List S67) (S U : List Bool) : (encL m K J L S U).length = bodyN m U.length S.length L.length J.length K.length (nmSt (names K)).1.length := by
 have hz : (K.zip (nmSt (names K)).2.2).length = K.length := by rw [List.length_zip, (nmSt_len _).2]; simp [names]
 unfold encL bodyN
 simp only [List.length_append]
 rw [flat_length (jA m) m J (fun x _ => jA_len m x), flat_length jB 1 J (fun x _ => rfl), flat_length kA 6 _ (fun x _ => kA_len x), flat_length (lA m) (m + 4) L (fun x _ => lA_len m x), tr_len, tr_len, bytesOf_length, sz_l, hz]
 have h1 : (m + 1) * J.length = m * J.length + J.length := by rw [Nat.add_mul, Nat.one_mul]
 omega
section
variable (m : Nat) (K : List S56) (J : List S54) (L : List S67) (S U : List Bool)
def pJA : List Int := J.flatMap (jA m)
def pJB : List Int := J.flatMap jB
def pK : List Int := (K.zip (nmSt (names K)).2.2).flatMap kA
def pN : List Int := bytesOf ⟨(nmSt (names K)).1.toArray⟩
def pL : List Int := L.flatMap (lA m)
theorem encL_parts : encL m K J L S U = pJA m J ++ (pJB J ++ (pK K ++ (pN K ++ (pL m L ++ (tr S ++ tr U))))) := by
 unfold encL pJA pJB pK pN pL
 simp only [List.append_assoc]
theorem pJA_len : (pJA m J).length = m * J.length := flat_length _ _ _ (fun x _ => jA_len m x)
theorem pJB_len : (pJB J).length = J.length := by unfold pJB; rw [flat_length jB 1 J (fun x _ => rfl), Nat.one_mul]
theorem zip_len : (K.zip (nmSt (names K)).2.2).length = K.length := by rw [List.length_zip, (nmSt_len _).2]; simp [names]
theorem pK_len : (pK K).length = 6 * K.length := by unfold pK; rw [flat_length kA 6 _ (fun x _ => kA_len x), zip_len]
theorem pN_len : (pN K).length = (nmSt (names K)).1.length := by unfold pN; rw [bytesOf_length, sz_l]
theorem pL_len : (pL m L).length = (m + 4) * L.length := flat_length _ _ _ (fun x _ => lA_len m x)
theorem at_o1 (q : Nat) : (encL m K J L S U).drop (o1 m J.length + q) = (pK K ++ (pN K ++ (pL m L ++ (tr S ++ tr U)))).drop q := by
 have h : o1 m J.length + q = m * J.length + (J.length + q) := by unfold o1; rw [Nat.add_mul]; omega
 rw [h, encL_parts, drop_pre _ _ _ _ (pJA_len m J), drop_pre _ _ _ _ (pJB_len J)]
theorem at_o2 (q : Nat) : (encL m K J L S U).drop (o2 m J.length K.length + q) = (pN K ++ (pL m L ++ (tr S ++ tr U))).drop q := by
 have h : o2 m J.length K.length + q = o1 m J.length + (6 * K.length + q) := by unfold o2; omega
 rw [h, at_o1, drop_pre _ _ _ _ (pK_len K)]
theorem at_o3 (q : Nat) : (encL m K J L S U).drop (o3 m J.length K.length (nmSt (names K)).1.length + q) = (pL m L ++ (tr S ++ tr U)).drop q := by
 have h : o3 m J.length K.length (nmSt (names K)).1.length + q = o2 m J.length K.length + ((nmSt (names K)).1.length + q) := by unfold o3; omega
 rw [h, at_o2, drop_pre _ _ _ _ (pN_len K)]
theorem at_o4 (q : Nat) : (encL m K J L S U).drop (o4 m L.length J.length K.length (nmSt (names K)).1.length + q) = (tr S ++ tr U).drop q := by
 have h : o4 m L.length J.length K.length (nmSt (names K)).1.length + q = o3 m J.length K.length (nmSt (names K)).1.length + ((m + 4) * L.length + q) := by unfold o4; omega
 rw [h, at_o3, drop_pre _ _ _ _ (pL_len m L)]
theorem at_o5 : (encL m K J L S U).drop (o5 m S.length L.length J.length K.length (nmSt (names K)).1.length) = tr U := by
 have h : o5 m S.length L.length J.length K.length (nmSt (names K)).1.length = o4 m L.length J.length K.length (nmSt (names K)).1.length + (S.length + 0) := by unfold o5; omega
 rw [h, at_o4, drop_pre _ _ _ _ (tr_len S), List.drop_zero]
theorem isOne_tr (l : List Bool) : isOne (tr l) = l := by
 unfold isOne tr
 rw [List.map_map]
 conv => rhs; rw [← List.map_id l]
 apply List.map_congr_left
 intro b _
 cases b <;> rfl
theorem allB_tr (l : List Bool) : allB (tr l) = true := by
 unfold allB tr
 rw [List.all_map, List.all_eq_true]
 intro b _
 cases b <;> rfl
theorem dS_eq : dS m S.length L.length J.length K.length (nmSt (names K)).1.length (encL m K J L S U) = tr S := by
 unfold dS
 have h := at_o4 m K J L S U 0
 rw [Nat.add_zero, List.drop_zero] at h
 rw [h, List.take_append_of_le_length (by rw [tr_len]; exact Nat.le_refl _), List.take_of_length_le (by rw [tr_len]; exact Nat.le_refl _)]
theorem dU_eq : dU m U.length S.length L.length J.length K.length (nmSt (names K)).1.length (encL m K J L S U) = tr U := by
 unfold dU
 rw [at_o5, List.take_of_length_le (by rw [tr_len]; exact Nat.le_refl _)]
theorem dNs_eq : dNs m J.length K.length (nmSt (names K)).1.length (encL m K J L S U) = pN K := by
 unfold dNs
 have h := at_o2 m K J L S U 0
 rw [Nat.add_zero, List.drop_zero] at h
 rw [h, List.take_append_of_le_length (by rw [pN_len]; exact Nat.le_refl _), List.take_of_length_le (by rw [pN_len]; exact Nat.le_refl _)]
theorem ext_range {α : Type} (l : List α) (f : Nat → α) (h : ∀ i (hi : i < l.length), f i = l[i]) : (List.range l.length).map f = l := by
 apply List.ext_getElem
 ·
  simp
 ·
  intro i h1 h2
  rw [List.getElem_map, List.getElem_range]
  exact h i h2
theorem wrap_small (n : Int) (h0 : 0 ≤ n) (h1 : n < 256) : wrap64 (n % 256) = n := by rw [Hand.w64 (by omega) (by omega)]; omega
theorem dJ_eq (hm : m = 4 ∨ m = 8) (hJ : ∀ j ∈ J, fit m j.f0 ∧ 0 ≤ j.f1 ∧ j.f1 < 256) : dJ m J.length (encL m K J L S U) = J := by
 unfold dJ
 refine ext_range J _ (fun i hi => ?_)
 obtain ⟨h1, h2, h3⟩ := hJ J[i] (List.getElem_mem hi)
 unfold jump1
 rw [encL_parts]
 have e1 : (pJA m J ++ (pJB J ++ (pK K ++ (pN K ++ (pL m L ++ (tr S ++ tr U)))))).drop (m * i) = jA m J[i] ++ ((J.drop (i + 1)).flatMap (jA m) ++ (pJB J ++ (pK K ++ (pN K ++ (pL m L ++ (tr S ++ tr U)))))) := flat_at (jA m) m J (fun x _ => jA_len m x) i hi _
 have e2 : (pJA m J ++ (pJB J ++ (pK K ++ (pN K ++ (pL m L ++ (tr S ++ tr U)))))).drop (m * J.length + i) = jB J[i] ++ ((J.drop (i + 1)).flatMap jB ++ (pK K ++ (pN K ++ (pL m L ++ (tr S ++ tr U))))) := by
  rw [drop_pre _ _ _ _ (pJA_len m J)]
  have := flat_at jB 1 J (fun x _ => rfl) i hi (pK K ++ (pN K ++ (pL m L ++ (tr S ++ tr U))))
  rw [Nat.one_mul] at this
  exact this
 rw [e1, e2]
 have e3 : numU m (jA m J[i] ++ ((J.drop (i + 1)).flatMap (jA m) ++ (pJB J ++ (pK K ++ (pN K ++ (pL m L ++ (tr S ++ tr U))))))) = J[i].f0 := num_back m hm _ h1 _
 have e4 : wrap64 (rd (jB J[i] ++ ((J.drop (i + 1)).flatMap jB ++ (pK K ++ (pN K ++ (pL m L ++ (tr S ++ tr U)))))) 0) = J[i].f1 := wrap_small _ h2 h3
 rw [e3, e4]
theorem dL_eq (hm : m = 4 ∨ m = 8) (hL : ∀ x ∈ L, fit m x.f0 ∧ fit 4 x.f1) : dL m L.length J.length K.length (nmSt (names K)).1.length (encL m K J L S U) = L := by
 unfold dL
 refine ext_range L _ (fun i hi => ?_)
 obtain ⟨h1, h2⟩ := hL L[i] (List.getElem_mem hi)
 unfold leap1
 have e1 : (encL m K J L S U).drop (o3 m J.length K.length (nmSt (names K)).1.length + (m + 4) * i) = lA m L[i] ++ ((L.drop (i + 1)).flatMap (lA m) ++ (tr S ++ tr U)) := by
  rw [at_o3]
  exact flat_at (lA m) (m + 4) L (fun x _ => lA_len m x) i hi _
 have e2 : (encL m K J L S U).drop (o3 m J.length K.length (nmSt (names K)).1.length + (m + 4) * i + m) = be 4 (u64w L[i].f1) ++ ((L.drop (i + 1)).flatMap (lA m) ++ (tr S ++ tr U)) := by
  rw [← List.drop_drop, e1]
  unfold lA
  rw [List.append_assoc, List.drop_append_of_le_length (by rw [be_len]; exact Nat.le_refl _), List.drop_of_length_le (by rw [be_len]; exact Nat.le_refl _), List.nil_append]
 rw [e2, e1, num_back 4 (.inl rfl) _ h2]
 have e3 : numU m (lA m L[i] ++ ((L.drop (i + 1)).flatMap (lA m) ++ (tr S ++ tr U))) = L[i].f0 := by
  unfold lA
  rw [List.append_assoc]
  exact num_back m hm _ h1 _
 rw [e3]
theorem kind_at (i : Nat) (hi : i < K.length) : ∃ (p : Nat) (rest : List Int), (encL m K J L S U).drop (o1 m J.length + 6 * i) = be 4 (u64w K[i].f0) ++ (b1 K[i].f1 :: ((p : Int) % 256) :: rest) ∧ (∃ pre post : List UInt8, (nmSt (names K)).1 = pre ++ K[i].f2.data.toList ++ 0 :: post ∧ pre.length = p) := by
 have hl : (names K).length = K.length := by simp [names]
 have hz : i < (K.zip (nmSt (names K)).2.2).length := by rw [zip_len]; exact hi
 have inv := nm_inv (names K)
 obtain ⟨p, hp, hat⟩ := inv.at_ i (by omega)
 have hn : (names K)[i]'(by omega) = K[i].f2 := by simp [names]
 rw [hn] at hp
 have hat2 : (nmSt (names K)).2.2[i]'(by rw [inv.len]; omega) = (p : Int) % 256 := by
  rw [List.getElem?_eq_getElem (by rw [inv.len]; omega)] at hat
  exact Option.some.inj hat
 obtain ⟨pre, post, h1, h2⟩ := inv.place _ p hp
 refine ⟨p, ((K.zip (nmSt (names K)).2.2).drop (i + 1)).flatMap kA ++ (pN K ++ (pL m L ++ (tr S ++ tr U))), ?_, pre, post, h1, h2⟩
 rw [at_o1]
 have e := flat_at kA 6 _ (fun x _ => kA_len x) i hz (pN K ++ (pL m L ++ (tr S ++ tr U)))
 have ek : kA (K.zip (nmSt (names K)).2.2)[i] = be 4 (u64w K[i].f0) ++ [b1 K[i].f1] ++ [(p : Int) % 256] := by
  rw [List.getElem_zip, hat2]
  rfl
 rw [ek] at e
 unfold pK
 rw [e]
 simp
theorem kind_read (hn : (nmSt (names K)).1.length ≤ 256) (i : Nat) (hi : i < K.length) (h4 : fit 4 K[i].f0) (hz : Lib.indexByte K[i].f2.data.toList 0 < 0) :
  kind1 (o1 m J.length) (pN K) (encL m K J L S U) i = K[i] ∧ ktrue (o1 m J.length) (encL m K J L S U) i = true ∧ kname (o1 m J.length) (pN K) (encL m K J L S U) i = true := by
 obtain ⟨p, rest, e, pre, post, h1, h2⟩ := kind_at m K J L S U i hi
 have hp : p < 256 := by
  have := congrArg List.length h1
  simp only [List.length_append, List.length_cons] at this
  omega
 have e4 : (encL m K J L S U).drop (o1 m J.length + 6 * i + 4) = b1 K[i].f1 :: ((p : Int) % 256) :: rest := by
  rw [← List.drop_drop, e, List.drop_append_of_le_length (by rw [be_len]; exact Nat.le_refl _), List.drop_of_length_le (by rw [be_len]; exact Nat.le_refl _), List.nil_append]
 have e5 : (encL m K J L S U).drop (o1 m J.length + 6 * i + 5) = ((p : Int) % 256) :: rest := by
  rw [show o1 m J.length + 6 * i + 5 = (o1 m J.length + 6 * i + 4) + 1 from rfl, ← List.drop_drop, e4]
  rfl
 have hk : kat (o1 m J.length) (encL m K J L S U) i = (p : Int) := by
  unfold kat
  rw [e5, rd_zero, wrap_small _ (by omega) (by omega)]
 have hnm : nameI (pN K) (p : Int) = (K[i].f2, true) := name_at _ pre post _ p h1 h2 hz
 refine ⟨?_, ?_, ?_⟩
 ·
  unfold kind1
  rw [e, e4, hk, hnm, rd_zero, num_back 4 (.inl rfl) _ h4]
  have eb : (b1 K[i].f1 == 1) = K[i].f1 := by cases K[i].f1 <;> rfl
  rw [eb]
 ·
  unfold ktrue
  rw [e4, rd_zero]
  cases K[i].f1 <;> rfl
 ·
  unfold kname
  rw [hk, hnm]
theorem dec_enc (hm : m = 4 ∨ m = 8) (v : Int) (hv : 1 ≤ v ∧ v ≤ 4) (hr : rightB m v K J L S U = true) (hJ : ∀ j ∈ J, fit 8 j.f0) (hL : ∀ x ∈ L, fit 8 x.f0 ∧ fit 8 x.f1) (more : List Int) :
  block_Decode.f (encL m K J L S U ++ more) v U.length S.length L.length J.length K.length (nmSt (names K)).1.length m = some (K, J, L, S, U, 0) := by
 have hlen := encL_len m K J L S U
 obtain ⟨_, b2, b3, b4, b5, b6, b7, b8⟩ := rightB_bd hr
 have hr0 := hr
 unfold rightB kindedB at hr
 simp only [Bool.and_eq_true, Bool.or_eq_true, decide_eq_true_eq] at hr
 obtain ⟨⟨⟨_, ⟨_, hk⟩, hn⟩, hj⟩, hl⟩ := hr
 have hne : 1 ≤ (nmSt (names K)).1.length := by
  have := nmSt_ne (names K) (by intro e; have := congrArg List.length e; simp [names] at this; rw [this] at b2; simp at b2)
  cases h : (nmSt (names K)).1 with
  | nil => exact absurd h this
  | cons _ _ => simp
 have hJ2 : ∀ j ∈ J, fit m j.f0 ∧ 0 ≤ j.f1 ∧ j.f1 < 256 := by
  intro j hj0
  obtain ⟨i, hi, rfl⟩ := List.getElem_of_mem hj0
  unfold jumpedB at hj
  rw [Bool.and_eq_true] at hj
  have h := all_at hj.1 hi
  unfold jokB at h
  rw [rd54 J i hi] at h
  simp only [Bool.and_eq_true, Bool.not_eq_true', decide_eq_false_iff_not] at h
  obtain ⟨⟨⟨_, h2⟩, h3⟩, h4⟩ := h
  exact ⟨fits_fit hm (hJ _ hj0) h4, by omega, by omega⟩
 have hL2 : ∀ x ∈ L, fit m x.f0 ∧ fit 4 x.f1 := by
  intro x hx0
  obtain ⟨i, hi, rfl⟩ := List.getElem_of_mem hx0
  have hc := corr_bd _ _ L (fun y hy => (hL y hy).2) hl i hi
  have hl2 := hl
  unfold leapedB at hl2
  rw [Bool.and_eq_true] at hl2
  have h := all_at hl2.1 hi
  unfold lokB at h
  rw [rd67 L i hi] at h
  simp only [Bool.and_eq_true] at h
  exact ⟨fits_fit hm (hL _ hx0).1 h.2, fit4.2 (by omega)⟩
 have hK : ∀ i (hi : i < K.length), fit 4 K[i].f0 ∧ Lib.indexByte K[i].f2.data.toList 0 < 0 := by
  intro i hi
  have h := all_at hk hi
  unfold kokB hasZero at h
  rw [rd56 K i hi] at h
  simp only [Bool.and_eq_true, Bool.not_eq_true', decide_eq_false_iff_not] at h
  obtain ⟨⟨⟨h1, h2⟩, h3⟩, _⟩ := h
  exact ⟨fit4.2 (by omega), by omega⟩
 have hdK : dK m J.length K.length (nmSt (names K)).1.length (encL m K J L S U) = K := by
  unfold dK
  rw [dNs_eq]
  exact ext_range K _ (fun i hi => (kind_read m K J L S U b8 i hi (hK i hi).1 (hK i hi).2).1)
 have hdJ := dJ_eq m K J L S U hm hJ2
 have hdL := dL_eq m K J L S U hm hL2
 have hOK : dOK m U.length S.length L.length J.length K.length (nmSt (names K)).1.length (encL m K J L S U) = true := by
  unfold dOK
  rw [dNs_eq, dS_eq, dU_eq, allB_tr, allB_tr, Bool.and_true, Bool.and_true, Bool.and_eq_true, List.all_eq_true, List.all_eq_true]
  refine ⟨fun i hi => ?_, fun i hi => ?_⟩
  ·
   have := List.mem_range.1 hi
   exact (kind_read m K J L S U b8 i this (hK i this).1 (hK i this).2).2.1
  ·
   have := List.mem_range.1 hi
   exact (kind_read m K J L S U b8 i this (hK i this).1 (hK i this).2).2.2
 have hRt : dRight m v U.length S.length L.length J.length K.length (nmSt (names K)).1.length (encL m K J L S U) = true := by
  unfold dRight
  rw [hdK, hdJ, hdL, dS_eq, dU_eq, isOne_tr, isOne_tr]
  exact hr0
 unfold block_Decode.f
 rw [if_pos ⟨by rcases hm with rfl | rfl <;> simp, ⟨hv.1, hv.2⟩, ⟨by omega, by omega⟩, ⟨by omega, by omega⟩, ⟨by omega, by omega⟩, ⟨by omega, by omega⟩, by omega, by omega⟩]
 simp only [Int.toNat_natCast]
 have ht : (encL m K J L S U ++ more).take (bodyN m U.length S.length L.length J.length K.length (nmSt (names K)).1.length) = encL m K J L S U := by
  rw [List.take_append_of_le_length (by omega), List.take_of_length_le (by omega)]
 rw [if_neg (by rw [List.length_append]; omega), ht, if_pos ⟨hOK, hRt⟩, hdK, hdJ, hdL, dS_eq, dU_eq, isOne_tr, isOne_tr]
end
end Go.Proofs.Ythobnoknbdljgaa
end
section
namespace Go.Proofs.Ythobnoknbdljgaa
open Go.RowKit Hand PB0 Go.Proofs.YthobnoknbdljgaaW.PrintWords Oct
theorem dec_cases (l0 : List Int) (hb : Bytes l0) (v ut sd le ti ty ch a2 : Int) :
  ∃ (K : List S56) (J : List S54) (L : List S67) (S U : List Bool) (e : Int), block_Decode.f l0 v ut sd le ti ty ch a2 = some (K, J, L, S, U, e) ∧
   (e ≠ 0 → K = [] ∧ J = [] ∧ L = [] ∧ S = [] ∧ U = []) ∧
   (e = 0 → (∃ m : Nat, (m = 4 ∨ m = 8) ∧ a2 = (m : Int)) ∧ (1 ≤ v ∧ v ≤ 4) ∧ rightB a2 v K J L S U = true ∧ (J.length : Int) = ti ∧ (K.length : Int) = ty ∧ (L.length : Int) = le ∧ (∀ j ∈ J, fit 8 j.f0) ∧ (∀ x ∈ L, fit 8 x.f0 ∧ fit 8 x.f1) ∧ encOK K J L S U) := by
 unfold block_Decode.f
 by_cases hp : (a2 = 4 ∨ a2 = 8) ∧ rightP v ut sd le ti ty ch
 ·
  rw [if_pos hp]
  obtain ⟨ha, hp⟩ := hp
  obtain ⟨m, hm, rfl⟩ : ∃ m : Nat, (m = 4 ∨ m = 8) ∧ a2 = (m : Int) := by
   rcases ha with rfl | rfl
   ·
    exact ⟨4, .inl rfl, rfl⟩
   ·
    exact ⟨8, .inr rfl, rfl⟩
  simp only [Int.toNat_natCast]
  obtain ⟨h1, h2, h3, h4, h5, h6, h7⟩ := hp
  split
  ·
   exact ⟨[], [], [], [], [], 5, rfl, fun _ => ⟨rfl, rfl, rfl, rfl, rfl⟩, fun h => by cases h⟩
  ·
   rename_i hlen
   obtain ⟨bs, hbs⟩ : ∃ x, x = l0.take (bodyN m ut.toNat sd.toNat le.toNat ti.toNat ty.toNat ch.toNat) := ⟨_, rfl⟩
   rw [← hbs]
   have hbb : Bytes bs := by rw [hbs]; exact hb.take _
   split
   ·
    rename_i hh
    refine ⟨_, _, _, _, _, 0, rfl, fun h => absurd rfl h, fun _ => ⟨⟨m, hm, rfl⟩, h1, ?_, ?_, ?_, ?_, ?_, ?_, encOK_d m _ _ _ _ _ _ bs (by omega)⟩⟩
    ·
     exact hh.2
    ·
     simp [dJ]; omega
    ·
     simp [dK]; omega
    ·
     simp [dL]; omega
    ·
     intro j hj
     unfold dJ at hj
     obtain ⟨i, _, rfl⟩ := List.mem_map.1 hj
     have h := numU_fit m hm (bs.drop (m * i)) (hbb.drop _)
     rcases hm with rfl | rfl
     ·
      rw [fit4] at h
      rw [fit8]
      show -9223372036854775808 ≤ numU 4 _ ∧ numU 4 _ ≤ _
      omega
     ·
      exact h
    ·
     intro x hx
     unfold dL at hx
     obtain ⟨i, _, rfl⟩ := List.mem_map.1 hx
     refine ⟨?_, ?_⟩
     ·
      have h := numU_fit m hm (bs.drop (o3 m ti.toNat ty.toNat ch.toNat + (m + 4) * i)) (hbb.drop _)
      rcases hm with rfl | rfl
      ·
       rw [fit4] at h
       rw [fit8]
       show -9223372036854775808 ≤ numU 4 _ ∧ numU 4 _ ≤ _
       omega
      ·
       exact h
     ·
      have h := numU_fit 4 (.inl rfl) (bs.drop (o3 m ti.toNat ty.toNat ch.toNat + (m + 4) * i + m)) (hbb.drop _)
      rw [fit4] at h
      rw [fit8]
      show -9223372036854775808 ≤ numU 4 _ ∧ numU 4 _ ≤ _
      omega
   ·
    exact ⟨[], [], [], [], [], 4, rfl, fun _ => ⟨rfl, rfl, rfl, rfl, rfl⟩, fun h => by cases h⟩
 ·
  rw [if_neg hp]
  exact ⟨[], [], [], [], [], 1, rfl, fun _ => ⟨rfl, rfl, rfl, rfl, rfl⟩, fun h => by cases h⟩
open PL1 Stub2
theorem once_j1 (k : Nat) (x0 : List Int) (hb : Bytes x0) (x8 : Int) (b : Bool) (v ut sd le ti ty ch : Int) :
  longcaselaw06_BlockOnce.j1 (k + 1) x0 true x8 b v ut sd le ti ty ch = some true := by
 rw [longcaselaw06_BlockOnce.j1]
 cases b
 ·
  rw [if_neg (by decide)]
  obtain ⟨K, J, L, S, U, e, hd, hno, hyes⟩ := dec_cases x0 hb v ut sd le ti ty ch x8
  rw [hd, Option.bind_some]
  by_cases he : e = 0
  ·
   subst he
   obtain ⟨⟨m, hm, rfl⟩, hv, hr, h1, h2, h3, hJ, hL, hok⟩ := hyes rfl
   have henc : block_Encode.f K J L S U (m : Int) v = some (encL m K J L S U, v, (U.length : Int), (S.length : Int), (L.length : Int), (J.length : Int), (K.length : Int), ((nmSt (names K)).1.length : Int), 0) := by
    unfold block_Encode.f encR
    rw [if_pos hok, if_pos ⟨hv.1, hv.2, hr⟩, Int.toNat_natCast]
   have hdec := dec_enc m K J L S U hm v hv hr hJ hL []
   rw [List.append_nil] at hdec
   have hs : longcaseref06_Same.f K J L S U K J L S U = some true := by
    unfold longcaseref06_Same.f sameB
    rw [if_pos ⟨hok.1, hok.2.2.1, hok.2.2.2.1, hok.2.2.2.2.1, hok.2.2.2.2.2⟩]
    simp
   rw [if_pos rfl, henc, Option.bind_some]
   dsimp only
   rw [hdec, Option.bind_some]
   dsimp only
   rw [if_pos rfl, if_pos rfl, if_pos rfl]
   unfold longcaselaw06_ref.f
   rw [Option.bind_some, Option.bind_some]
   dsimp only
   rw [hs, Option.bind_some, if_pos rfl, if_pos h1, if_pos h2, h3]
   simp
  ·
   obtain ⟨rfl, rfl, rfl, rfl, rfl⟩ := hno he
   dsimp only
   rw [if_neg he, if_pos rfl]
   rfl
 ·
  rw [if_pos rfl]
theorem once_f (l0 : List Int) (hb : Bytes l0) (v ut sd le ti ty ch : Int) (a2 : Bool) : longcaselaw06_BlockOnce.f 2 l0 v ut sd le ti ty ch a2 = some true := by
 unfold longcaselaw06_BlockOnce.f longcaselaw06_shown.f
 have h0 : 0 ≤ mn (l0.length : Int) 2000 := by unfold mn; split <;> omega
 have h1 : mn (l0.length : Int) 2000 ≤ (l0.length : Int) := by unfold mn; split <;> omega
 have hj : ∀ x8 : Int, longcaselaw06_BlockOnce.j0 2 (l0.take (mn (l0.length : Int) 2000).toNat) true x8 v ut sd le ti ty ch = some true := by
  intro x8
  rw [longcaselaw06_BlockOnce.j0]
  split <;> exact once_j1 0 _ (hb.take _) x8 _ v ut sd le ti ty ch
 rw [Option.bind_some, if_pos h0, if_pos h1]
 split <;> exact hj _
end Go.Proofs.Ythobnoknbdljgaa
namespace Go.Proofs.Ythobnoknbdljgaa.Hand
open Go.RowKit PB0 Go.Proofs.YthobnoknbdljgaaW.PrintWords
theorem once_row (a0 : Option Addr) (len0 cap0 : Nat) (z0 : List Int) (v ut sd le ti ty ch : Int) (b : Bool) (w : World)
  (w0 : (a0 = none ∧ len0 = 0 ∧ cap0 = 0 ∧ z0 = []) ∨ ∃ x, a0 = some x ∧ len0 ≤ cap0 ∧ cap0 ≤ maxLen ∧ z0.length = cap0 ∧ (∀ i, i < z0.length → w.cell? (x.add i) = some (.int .u8 (z0.getD i 0))) ∧ ∀ n ∈ z0, (Lit.int .u8 n).wf = true) (_y0 : len0 * 1 ≤ 140737488351232) (_ : (Lit.int .i64 v).wf = true) (_ : (Lit.int .i64 ut).wf = true) (_ : (Lit.int .i64 sd).wf = true) (_ : (Lit.int .i64 le).wf = true) (_ : (Lit.int .i64 ti).wf = true) (_ : (Lit.int .i64 ty).wf = true) (_ : (Lit.int .i64 ch).wf = true) :
  Calls Try.prog 8 #[.slice a0 len0 cap0, .agg #[.int .i64 v, .int .i64 ut, .int .i64 sd, .int .i64 le, .int .i64 ti, .int .i64 ty, .int .i64 ch], .bool b] w fun e w' => e = .returned (.bool true) ∧ Below w.heap.size w w' := by
 obtain ⟨l0, rfl, hr0, hm0, hw0, hc0⟩ := ReadsInt.ofRowC w0
 exact PL1.longcaselaw06_BlockOnce.calls 2 a0 cap0 l0 v ut sd le ti ty ch b true w (Kd.C_of_reads (d := (0 : Int)) (h1 := fun _ => rfl) hr0) hc0 (once_f l0 (Oct.bytes_wf hw0) v ut sd le ti ty ch b) rfl
end Go.Proofs.Ythobnoknbdljgaa.Hand
end
