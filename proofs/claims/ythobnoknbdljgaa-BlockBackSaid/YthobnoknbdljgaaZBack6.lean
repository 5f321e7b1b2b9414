/- What the claim needs of its texts, one behind the other (laid by a program of the session's). -/
import Derived.Test.YthobnoknbdljgaaZBack5
section
namespace Go.Proofs.Ythobnoknbdljgaa.PL3
open Go.Proofs.Ythobnoknbdljgaa.PB0 Sq
open Go.RowKit Go.Proofs.Ythobnoknbdljgaa.Stub2 Go.Proofs.Ythobnoknbdljgaa.Stub Go.Proofs.Ythobnoknbdljgaa.Hand Go.Proofs.YthobnoknbdljgaaW.PrintWords Go.Proofs.YthobnoknbdljgaaW.PrintLast Go.Proofs.YthobnoknbdljgaaW.PrintMore
attribute [local go_sem] max2_int min2_int max_two min_two max_three min_three max_four min_four
set_option linter.unusedVariables false
set_option linter.unusedSimpArgs false
def longcaselaw06_BlockBack.j0 : Nat → Int → List Int → Bool → Int → List (S56) → List (S54) → List (S67) → List Bool → List Bool → Option (Bool)
 | 0, _, _, _, _, _, _, _, _, _ => none
 | k + 1, x2, x3, x9, x10, x102000, x102001, x102002, x102003, x102004 => (block_Encode.f x102000 x102001 x102002 x102003 x102004 x10 (wrap64 (1 + (Go.bits .and .i64 x2 3)))).bind fun bt119 => (if bt119.2.2.2.2.2.2.2.2 = 0 then (if (bt119.1.length : Int) = 0 then (some false) else ((some (([] : List Int) : List Int)).bind fun y132 => (if y132.length + bt119.1.length < 140737488355328 then ((some (y132 ++ bt119.1 : List Int)).bind fun y135 => (if y135.length + x3.length < 140737488355328 then ((block_Decode.f (y135 ++ x3) bt119.2.1 bt119.2.2.1 bt119.2.2.2.1 bt119.2.2.2.2.1 bt119.2.2.2.2.2.1 bt119.2.2.2.2.2.2.1 bt119.2.2.2.2.2.2.2.1 x10).bind fun bt141 => (if 0 ≤ (wrap64 ((bt119.1.length : Int) - 1)) then (if (wrap64 ((bt119.1.length : Int) - 1)) ≤ (bt119.1.length : Int) then ((block_Decode.f (bt119.1.take ((wrap64 ((bt119.1.length : Int) - 1)) : Int).toNat) bt119.2.1 bt119.2.2.1 bt119.2.2.2.1 bt119.2.2.2.2.1 bt119.2.2.2.2.2.1 bt119.2.2.2.2.2.2.1 bt119.2.2.2.2.2.2.2.1 x10).bind fun bt162 => (if x9 = true then (if bt141.2.2.2.2.2 = 0 then ((longcaselaw06_ref.f x102000 x102001 x102002 x102003 x102004).bind fun bt179 => ((longcaselaw06_ref.f bt141.1 bt141.2.1 bt141.2.2.1 bt141.2.2.2.1 bt141.2.2.2.2.1).bind fun bt194 => ((longcaseref06_Same.f bt179.1 bt179.2.1 bt179.2.2.1 bt179.2.2.2.1 bt179.2.2.2.2 bt194.1 bt194.2.1 bt194.2.2.1 bt194.2.2.2.1 bt194.2.2.2.2).bind fun t209 => (if t209 = true then (some (bt162.2.2.2.2.2 == 5)) else (some false))))) else (some false)) else (some false))) else (none)) else (none))) else (none))) else (none)))) else (if x9 = true then ((block_Right.f x102000 x102001 x102002 x102003 x102004 x10 (wrap64 (1 + (Go.bits .and .i64 x2 3)))).bind fun t131 => (some (!t131))) else (some false)))
def longcaselaw06_BlockBack.f (k : Nat) (l0_0 : List (S56)) (l0_1 : List (S54)) (l0_2 : List (S67)) (l0_3 : List Bool) (l0_4 : List Bool) (a1 : Bool) (a2 : Int) (l3 : List Int) : Option (Bool) := (longcaselaw06_shown.f).bind fun t102 => ((longcaselaw06_few.f l0_0 l0_1 l0_2 l0_3 l0_4).bind fun bt103 => (if 0 ≤ (mn (l3.length : Int) 50) then (if (mn (l3.length : Int) 50) ≤ (l3.length : Int) then (if a1 = true then (longcaselaw06_BlockBack.j0 k a2 (l3.take ((mn (l3.length : Int) 50) : Int).toNat) t102 8 bt103.1 bt103.2.1 bt103.2.2.1 bt103.2.2.2.1 bt103.2.2.2.2) else (longcaselaw06_BlockBack.j0 k a2 (l3.take ((mn (l3.length : Int) 50) : Int).toNat) t102 4 bt103.1 bt103.2.1 bt103.2.2.1 bt103.2.2.2.1 bt103.2.2.2.2)) else (none)) else (none)))
theorem longcaselaw06_BlockBack.mono_l : ∀ k, (∀ y0 y1 y2 y3 y4 y5 y6 y7 y8, LeO (longcaselaw06_BlockBack.j0 k y0 y1 y2 y3 y4 y5 y6 y7 y8) (longcaselaw06_BlockBack.j0 (k + 1) y0 y1 y2 y3 y4 y5 y6 y7 y8))
 | 0 => fun _ _ _ _ _ _ _ _ _ r h => by simp [longcaselaw06_BlockBack.j0] at h
 | k + 1 => by
  have ih0 := longcaselaw06_BlockBack.mono_l k
  ·
   intro y0 y1 y2 y3 y4 y5 y6 y7 y8
   unfold longcaselaw06_BlockBack.j0
   repeat' first
   | (with_reducible exact ih0 _ _ _ _ _ _ _ _ _)
   | (with_reducible exact LeO.refl _)
   | (with_reducible exact LeO.none _)
   | (with_reducible refine LeO.ite ?_ ?_)
   | (with_reducible refine LeO.bind ?_ (fun _ => ?_))
   | exact ih0 _ _ _ _ _ _ _ _ _
   | exact LeO.none _
   | refine LeO.ite ?_ ?_
   | refine LeO.bind ?_ (fun _ => ?_)
theorem longcaselaw06_BlockBack.mono : ∀ a0 a1 a2 a3 a4 a5 a6 a7 k, LeO (longcaselaw06_BlockBack.f k a0 a1 a2 a3 a4 a5 a6 a7) (longcaselaw06_BlockBack.f (k + 1) a0 a1 a2 a3 a4 a5 a6 a7) := by
 intro a0 a1 a2 a3 a4 a5 a6 a7 k
 have ih0 := longcaselaw06_BlockBack.mono_l k
 unfold longcaselaw06_BlockBack.f
 repeat' first
   | (with_reducible exact ih0 _ _ _ _ _ _ _ _ _)
   | (with_reducible exact LeO.refl _)
   | (with_reducible exact LeO.none _)
   | (with_reducible refine LeO.ite ?_ ?_)
   | (with_reducible refine LeO.bind ?_ (fun _ => ?_))
   | exact ih0 _ _ _ _ _ _ _ _ _
   | exact LeO.none _
   | refine LeO.ite ?_ ?_
   | refine LeO.bind ?_ (fun _ => ?_)
def longcaselaw06_BlockBack.T13 : Bool × List (List Nat × List Nat) := (true, [([], []), ([], []), ([0, 1], [0, 1]), ([], []), ([2, 3, 2], [2, 3]), ([], []), ([], []), ([4, 5, 6, 4], [4, 5, 6]), ([7], [7]), ([8], [8]), ([8], [8]), ([], []), ([11, 9, 7, 0, 1, 2, 3, 4, 5, 6, 7, 8, 9, 11], [9, 11]), ([10, 12, 0, 1, 2, 3, 4, 5, 6, 7, 8, 9, 10, 11, 12], [10])])
def longcaselaw06_BlockBack.B13 : List Nat := [0, 0, 3, 0, 15, 0, 0, 127, 255, 511, 511, 0, 3071, 8191]
theorem longcaselaw06_BlockBack.tab13 : rtab .any (opsOf Try.f5 13) = longcaselaw06_BlockBack.T13 := by kernel_rfl
theorem longcaselaw06_BlockBack.bits13 : waitsOk longcaselaw06_BlockBack.T13.2 longcaselaw06_BlockBack.B13 = true := by kernel_rfl
def longcaselaw06_BlockBack.T14 : Bool × List (List Nat × List Nat) := (true, [([], []), ([], []), ([1], [1]), ([2], [2]), ([0, 3], [0, 3]), ([], []), ([], []), ([4, 5, 6], [4, 5, 6]), ([7], [7]), ([8], [8]), ([8], [8]), ([], []), ([11, 9, 7, 0, 1, 2, 3, 4, 5, 6, 7, 8, 9, 11], [9, 11]), ([10, 12, 0, 1, 2, 3, 4, 5, 6, 7, 8, 9, 10, 11, 12], [10])])
def longcaselaw06_BlockBack.B14 : List Nat := [0, 0, 2, 6, 15, 0, 0, 127, 255, 511, 511, 0, 3071, 8191]
theorem longcaselaw06_BlockBack.tab14 : rtab .any (opsOf Try.f5 14) = longcaselaw06_BlockBack.T14 := by kernel_rfl
theorem longcaselaw06_BlockBack.bits14 : waitsOk longcaselaw06_BlockBack.T14.2 longcaselaw06_BlockBack.B14 = true := by kernel_rfl
def longcaselaw06_BlockBack.T15 : Bool × List (List Nat × List Nat) := (true, [([], []), ([0], [0]), ([1], [1]), ([2, 1], [1, 2]), ([1, 3], [1, 3]), ([4, 1], [4]), ([5], [5]), ([6, 5, 5], [5, 6]), ([5], [5]), ([8, 7, 5], [5, 8]), ([7, 9, 9, 5], [5, 7, 9]), ([5, 10], [5, 10]), ([11, 10], [11]), ([12], [12]), ([13, 12], [12, 13]), ([12, 14], [12, 14]), ([15, 12, 0, 1, 2, 3, 4, 5, 6, 7, 8, 9, 10, 11, 12, 13, 14, 15], [15])])
def longcaselaw06_BlockBack.B15 : List Nat := [0, 1, 3, 7, 15, 31, 63, 127, 63, 511, 1023, 2047, 4095, 8191, 16383, 32767, 65535]
theorem longcaselaw06_BlockBack.tab15 : rtab .any (opsOf Try.f5 15) = longcaselaw06_BlockBack.T15 := by kernel_rfl
theorem longcaselaw06_BlockBack.bits15 : waitsOk longcaselaw06_BlockBack.T15.2 longcaselaw06_BlockBack.B15 = true := by kernel_rfl
set_option maxHeartbeats 8000000 in
set_option maxRecDepth 100000 in
theorem longcaselaw06_BlockBack.calls (k : Nat) (A0_0 : Option Addr) (c0_0 : Nat) (l0_0 : List (S56)) (A0_1 : Option Addr) (c0_1 : Nat) (l0_1 : List (S54)) (A0_2 : Option Addr) (c0_2 : Nat) (l0_2 : List (S67)) (A0_3 : Option Addr) (c0_3 : Nat) (l0_3 : List Bool) (A0_4 : Option Addr) (c0_4 : Nat) (l0_4 : List Bool) (a1 : Bool) (a2 : Int) (A3 : Option Addr) (c3 : Nat) (l3 : List Int) (r : Bool) (w : World) (hr0_0 : Kd.C k56 w A0_0 l0_0.length l0_0) (hc0_0 : l0_0.length ≤ c0_0) (hr0_1 : Kd.C k54 w A0_1 l0_1.length l0_1) (hc0_1 : l0_1.length ≤ c0_1) (hr0_2 : Kd.C k67 w A0_2 l0_2.length l0_2) (hc0_2 : l0_2.length ≤ c0_2) (hr0_3 : Kd.C Kd.bool w A0_3 l0_3.length l0_3) (hc0_3 : l0_3.length ≤ c0_3) (hr0_4 : Kd.C Kd.bool w A0_4 l0_4.length l0_4) (hc0_4 : l0_4.length ≤ c0_4) (hr3 : Kd.C (Kd.int .u8) w A3 l3.length l3) (hc3 : l3.length ≤ c3) (h : longcaselaw06_BlockBack.f k l0_0 l0_1 l0_2 l0_3 l0_4 a1 a2 l3 = some r) (hRT : r = true) :
  Calls Try.prog 5 #[.agg #[.slice A0_0 l0_0.length c0_0, .slice A0_1 l0_1.length c0_1, .slice A0_2 l0_2.length c0_2, .slice A0_3 l0_3.length c0_3, .slice A0_4 l0_4.length c0_4], .bool a1, .int .i64 a2, .slice A3 l3.length c3] w fun e w' => e = .returned (.bool r) ∧ Below w.heap.size w w' := by
 have HRT := Aside0.mk hRT
 clear hRT
 have hu27 := Try.underlying27
 have hu35 := Try.underlying35
 have HR0_0 := Aside0.mk hr0_0
 have HC0_0 := Aside0.mk hc0_0
 clear hr0_0 hc0_0
 have HR0_1 := Aside0.mk hr0_1
 have HC0_1 := Aside0.mk hc0_1
 clear hr0_1 hc0_1
 have HR0_2 := Aside0.mk hr0_2
 have HC0_2 := Aside0.mk hc0_2
 clear hr0_2 hc0_2
 have HR0_3 := Aside0.mk hr0_3
 have HC0_3 := Aside0.mk hc0_3
 clear hr0_3 hc0_3
 have HR0_4 := Aside0.mk hr0_4
 have HC0_4 := Aside0.mk hc0_4
 clear hr0_4 hc0_4
 have HR3 := Aside0.mk hr3
 have HC3 := Aside0.mk hc3
 clear hr3 hc3
 have HB := Aside0.mk (Below.refl w.heap.size w)
 have H : ((longcaselaw06_shown.f).bind fun t102 => ((longcaselaw06_few.f l0_0 l0_1 l0_2 l0_3 l0_4).bind fun bt103 => (if 0 ≤ (mn (l3.length : Int) 50) then (if (mn (l3.length : Int) 50) ≤ (l3.length : Int) then (if a1 = true then (longcaselaw06_BlockBack.j0 k a2 (l3.take ((mn (l3.length : Int) 50) : Int).toNat) t102 8 bt103.1 bt103.2.1 bt103.2.2.1 bt103.2.2.2.1 bt103.2.2.2.2) else (longcaselaw06_BlockBack.j0 k a2 (l3.take ((mn (l3.length : Int) 50) : Int).toNat) t102 4 bt103.1 bt103.2.1 bt103.2.2.1 bt103.2.2.2.1 bt103.2.2.2.2)) else (none)) else (none)))) = some r := h
 clear h
 replace H := Option.bind_eq_some_iff.mp H
 obtain ⟨t102, A50, H⟩ := H
 try dsimp only at H
 have A5 := Aside0.mk A50
 clear A50
 replace H := Option.bind_eq_some_iff.mp H
 obtain ⟨⟨t103, t106, t109, t112, t115⟩, A60, H⟩ := H
 try dsimp only at H
 have A6 := Aside0.mk A60
 clear A60
 obtain ⟨ji7, hji7⟩ : ∃ j_ : Int, (mn (l3.length : Int) 50) = j_ := ⟨_, rfl⟩
 replace H : (if 0 ≤ (ji7) then (if (ji7) ≤ (l3.length : Int) then (if a1 = true then (longcaselaw06_BlockBack.j0 k a2 (l3.take ((ji7) : Int).toNat) t102 8 t103 t106 t109 t112 t115) else (longcaselaw06_BlockBack.j0 k a2 (l3.take ((ji7) : Int).toNat) t102 4 t103 t106 t109 t112 t115)) else (none)) else (none)) = some r := by first | (rw [hji7] at H; exact H) | (simp only [hji7] at H ⊢; exact H)
 (try rw [hji7] at A5)
 (try rw [hji7] at A6)
 (try (have hji7h : ji7 ≤ 50 := by (rw [← hji7]; unfold mn; (repeat' split) <;> omega)))
 (try (have hji7g : ji7 ≤ 64 := by omega))
 (try (have hji7l : 0 ≤ ji7 := by (rw [← hji7]; unfold mn; (repeat' split) <;> omega)))
 (try (have hji7m : 0 ≤ ji7 := by omega))
 have hji7_ : (if 50 < (l3.length : Int) then 50 else (l3.length : Int)) = ji7 := hji7
 by_cases c8 : 0 ≤ (ji7)
 ·
  rw [if_pos c8] at H
  have c8b0 := eq_true c8
  have c8b1 : decide (0 ≤ (ji7)) = true := decide_eq_true c8
  clear c8
  by_cases c9 : (ji7) ≤ (l3.length : Int)
  ·
   rw [if_pos c9] at H
   have c9b0 := eq_true c9
   have c9b1 : decide ((ji7) ≤ (l3.length : Int)) = true := decide_eq_true c9
   clear c9
   have HC10 := Aside0.mk H
   clear H
   go_enter Try.func5, Try.ntmps5
   go_upto_if 26 with (first | ((with_reducible refine gate_dst (N := 4) rfl ?_); refine box_event ?hg (N := 4) ?hd (cs := #[.slice A0_0 l0_0.length c0_0, .slice A0_1 l0_1.length c0_1, .slice A0_2 l0_2.length c0_2, .slice A0_3 l0_3.length c0_3, .slice A0_4 l0_4.length c0_4]) (t := 27) ?hr ?_; (case hd => rfl); (case hg => rfl); (case hr => first | (go_simp; done) | (go_simp; rfl)); intro gb101 hg w11 hbox hb; have n0_ := Aside0.mk (below_step (Sq.kl HB) hb); have n1_ := Aside0.mk (hbox); have n2_ := Aside0.mk ((by rw [hg]; exact (below_size (Sq.kl HB)) : w.heap.size ≤ gb101)); have n3_ := Aside0.mk ((by rw [hg]; exact (below_size (Sq.kl HB)) : w.heap.size ≤ gb101)); clear HB; have HB := n0_; have BK101 := n1_; have GW101 := n2_; have GE101 := n3_; clear n0_ n1_ n2_ n3_; clear hb hbox hg) | ((with_reducible refine gate_callee (f := 11) rfl ?_); refine goesL_ (some 18) rfl rfl Try.func11 (by kernel_rfl) rfl #[] rfl (by (try simp only [List.map_toArray, List.map_cons, List.map_nil]); first | done | rfl | (simp only [List.length_drop, List.length_take]; rfl)) ?_; (with_reducible refine (longcaselaw06_shown.calls  t102 _ A5.out).mono ?_); rintro e w12 ⟨rfl, hb⟩; refine ⟨_, rfl, ?_⟩; have n0_ := kbb BK101 hb; have n1_ := Aside0.mk (below_step (Sq.kl1 HB GE101) hb); clear BK101; clear HB; have BK101 := n0_; have HB := n1_; clear n0_ n1_; (try clear hb); (try clear hb2); (try clear hk); (try clear hi); have hcz13_0 := kc BK101 0 rfl; have hcz13_1 := kc BK101 1 rfl; have hcz13_2 := kc BK101 2 rfl; have hcz13_3 := kc BK101 3 rfl; have hcz13_4 := kc BK101 4 rfl; have hfz13_0 := blk_frozen BK101.out 0; have hfz13_1 := blk_frozen BK101.out 1; have hfz13_2 := blk_frozen BK101.out 2; have hfz13_3 := blk_frozen BK101.out 3; have hfz13_4 := blk_frozen BK101.out 4) | ((with_reducible refine gate_callee (f := 12) rfl ?_); refine goesL_ (some 20) rfl rfl Try.func12 (by kernel_rfl) rfl #[.agg #[.slice A0_0 l0_0.length c0_0, .slice A0_1 l0_1.length c0_1, .slice A0_2 l0_2.length c0_2, .slice A0_3 l0_3.length c0_3, .slice A0_4 l0_4.length c0_4]] rfl (by (try simp only [List.map_toArray, List.map_cons, List.map_nil]); first | done | rfl | (simp only [List.length_drop, List.length_take]; rfl)) ?_; (with_reducible refine (longcaselaw06_few.calls _ _ l0_0 _ _ l0_1 _ _ l0_2 _ _ l0_3 _ _ l0_4 t103 t106 t109 t112 t115 _ ?side1 ?side2 ?side3 ?side4 ?side5 ?side6 ?side7 ?side8 ?side9 ?side10 A6.out).mono ?_); (case side1 => exact Sq.qd HR0_0 HB); (case side2 => exact HC0_0.out); (case side3 => exact Sq.qd HR0_1 HB); (case side4 => exact HC0_1.out); (case side5 => exact Sq.qd HR0_2 HB); (case side6 => exact HC0_2.out); (case side7 => exact Sq.qd HR0_3 HB); (case side8 => exact HC0_3.out); (case side9 => exact Sq.qd HR0_4 HB); (case side10 => exact HC0_4.out); rintro e w14 ⟨v104, v107, v110, v113, v116, rfl, ho0, ho1, ho2, ho3, ho4, hb⟩; refine ⟨_, rfl, ?_⟩; have n0_ := Aside0.mk (Kd.R_lower ho0 (below_size (Sq.kl1 HB GE101))); have n1_ := Aside0.mk (Kd.R_lower ho1 (below_size (Sq.kl1 HB GE101))); have n2_ := Aside0.mk (Kd.R_lower ho2 (below_size (Sq.kl1 HB GE101))); have n3_ := Aside0.mk (Kd.R_lower ho3 (below_size (Sq.kl1 HB GE101))); have n4_ := Aside0.mk (Kd.R_lower ho4 (below_size (Sq.kl1 HB GE101))); have n5_ := kbb BK101 hb; have n6_ := Aside0.mk (below_step (Sq.kl1 HB GE101) hb); clear BK101; clear HB; have HO105 := n0_; have HO108 := n1_; have HO111 := n2_; have HO114 := n3_; have HO117 := n4_; have BK101 := n5_; have HB := n6_; clear n0_ n1_ n2_ n3_ n4_ n5_ n6_; (try clear hb); (try clear hb2); (try clear hk); (try clear hi); (try clear ho0); (try clear ho1); (try clear ho2); (try clear ho3); (try clear ho4); obtain ⟨Ao15, co15, eo15⟩ := Kd.R_slice HO105.out; subst eo15; have hcz16_0 := kc BK101 0 rfl; have hcz16_1 := kc BK101 1 rfl; have hcz16_2 := kc BK101 2 rfl; have hcz16_3 := kc BK101 3 rfl; have hcz16_4 := kc BK101 4 rfl; have hfz16_0 := blk_frozen BK101.out 0; have hfz16_1 := blk_frozen BK101.out 1; have hfz16_2 := blk_frozen BK101.out 2; have hfz16_3 := blk_frozen BK101.out 3; have hfz16_4 := blk_frozen BK101.out 4; obtain ⟨Ao17, co17, eo17⟩ := Kd.R_slice HO108.out; subst eo17; obtain ⟨Ao18, co18, eo18⟩ := Kd.R_slice HO111.out; subst eo18; obtain ⟨Ao19, co19, eo19⟩ := Kd.R_slice HO114.out; subst eo19; obtain ⟨Ao20, co20, eo20⟩ := Kd.R_slice HO117.out; subst eo20; obtain ⟨i021, hi021, _, hsz21, _⟩ := info_parts info5; obtain ⟨hcut21, hA21, hC21⟩ := print_take_of (P := Try.prog) (Value.int .u8) 0 33 5 .i64 Try.underlying33 hi021 hsz21 A3 c3 l3 (ji7) (of_decide_eq_true (by first | (with_reducible assumption) | assumption)) (of_decide_eq_true (by first | (with_reducible assumption) | assumption)) HC3.out; have HR118 := Aside0.mk (Kd.C_of_reads (h1 := fun _ => rfl) (hA21 _ (Kd.reads_of_C HR3.out))); have HC118 := Aside0.mk hC21; clear hA21 hC21 hi021 hsz21))
   (try simp only [Act.put, List.setIfInBounds_toArray, List.set_cons_zero, List.set_cons_succ])
   go_cut [10] (fun v10 wc => ∃ (kq : Nat) (x10_9 : Int), v10 = .int .i64 x10_9 ∧ Aside0 (longcaselaw06_BlockBack.j0 kq a2 (l3.take ((ji7) : Int).toNat) t102 x10_9 t103 t106 t109 t112 t115 = some r) ∧ Aside0 (kq ≤ k) ∧ Aside0 (Kd.R k56 56 wc w.heap.size (fun _ => True) (.slice Ao15 t103.length co15) t103) ∧ Aside0 (Kd.R k54 54 wc w.heap.size (fun _ => True) (.slice Ao17 t106.length co17) t106) ∧ Aside0 (Kd.R k67 67 wc w.heap.size (fun _ => True) (.slice Ao18 t109.length co18) t109) ∧ Aside0 (Kd.R Kd.bool 4 wc w.heap.size (fun k_ => some k_ ≠ ((.slice Ao20 t115.length co20) : Value).ownBlock) (.slice Ao19 t112.length co19) t112) ∧ Aside0 (Kd.R Kd.bool 4 wc w.heap.size (fun k_ => some k_ ≠ ((.slice Ao19 t112.length co19) : Value).ownBlock) (.slice Ao20 t115.length co20) t115) ∧ Aside0 (wc.heap[gb101]? = some (.cells #[(.slice Ao15 t103.length co15), (.slice Ao17 t106.length co17), (.slice Ao18 t109.length co18), (.slice Ao19 t112.length co19), (.slice Ao20 t115.length co20)] 27 (0, 0))) ∧ Aside0 (Below w.heap.size w wc))
   case first =>
    have H := HC10.out
    clear HC10
    by_cases c22 : a1 = true
    ·
     subst c22
     have H1 : (longcaselaw06_BlockBack.j0 k a2 (l3.take ((ji7) : Int).toNat) t102 8 t103 t106 t109 t112 t115) = some r := by rw [if_pos rfl] at H; exact H
     clear H
     have H := H1
     clear H1
     have H' := Aside0.mk H
     clear H
     go_wp2
     go_meet
     case rel => exact ⟨_, (8), (by first | rfl | (simp; done) | (simp [*]; done)), H', ⟨by first | omega | exact Nat.le_refl _⟩, ⟨by (with_reducible repeat (first | apply Kd.R_alloc | apply Kd.R_drewN | apply Kd.R_drew)); exact Kd.R_mono (Sq.rf5 HO105 BK101) (fun _ hk => trivial)⟩, ⟨by (with_reducible repeat (first | apply Kd.R_alloc | apply Kd.R_drewN | apply Kd.R_drew)); exact Kd.R_mono (Sq.rf5 HO108 BK101) (fun _ hk => trivial)⟩, ⟨by (with_reducible repeat (first | apply Kd.R_alloc | apply Kd.R_drewN | apply Kd.R_drew)); exact Kd.R_mono (Sq.rf5 HO111 BK101) (fun _ hk => trivial)⟩, ⟨by (with_reducible repeat (first | apply Kd.R_alloc | apply Kd.R_drewN | apply Kd.R_drew)); exact Kd.R_mono (Sq.rf5 HO114 BK101) (fun _ hk => hk.1)⟩, ⟨by (with_reducible repeat (first | apply Kd.R_alloc | apply Kd.R_drewN | apply Kd.R_drew)); exact Kd.R_mono (Sq.rf5 HO117 BK101) (fun _ hk => hk.1)⟩, ⟨by (with_reducible repeat (first | refine blk_drewN ?_ _ | refine blk_drew ?_ | refine blk_alloc ?_ _)); refine blk_put (cs := #[.slice Ao15 t103.length co15, .slice Ao17 t106.length co17, .slice Ao18 t109.length co18, .slice Ao19 t112.length co19, .slice A0_4 l0_4.length c0_4]) ?_ 4 _ rfl; (with_reducible repeat (first | refine blk_drewN ?_ _ | refine blk_drew ?_ | refine blk_alloc ?_ _)); refine blk_put (cs := #[.slice Ao15 t103.length co15, .slice Ao17 t106.length co17, .slice Ao18 t109.length co18, .slice A0_3 l0_3.length c0_3, .slice A0_4 l0_4.length c0_4]) ?_ 3 _ rfl; (with_reducible repeat (first | refine blk_drewN ?_ _ | refine blk_drew ?_ | refine blk_alloc ?_ _)); refine blk_put (cs := #[.slice Ao15 t103.length co15, .slice Ao17 t106.length co17, .slice A0_2 l0_2.length c0_2, .slice A0_3 l0_3.length c0_3, .slice A0_4 l0_4.length c0_4]) ?_ 2 _ rfl; (with_reducible repeat (first | refine blk_drewN ?_ _ | refine blk_drew ?_ | refine blk_alloc ?_ _)); refine blk_put (cs := #[.slice Ao15 t103.length co15, .slice A0_1 l0_1.length c0_1, .slice A0_2 l0_2.length c0_2, .slice A0_3 l0_3.length c0_3, .slice A0_4 l0_4.length c0_4]) ?_ 1 _ rfl; (with_reducible repeat (first | refine blk_drewN ?_ _ | refine blk_drew ?_ | refine blk_alloc ?_ _)); refine blk_put (cs := #[.slice A0_0 l0_0.length c0_0, .slice A0_1 l0_1.length c0_1, .slice A0_2 l0_2.length c0_2, .slice A0_3 l0_3.length c0_3, .slice A0_4 l0_4.length c0_4]) ?_ 0 _ rfl; (with_reducible repeat (first | refine blk_drewN ?_ _ | refine blk_drew ?_ | refine blk_alloc ?_ _)); exact BK101.out⟩, ⟨Sq.kl1 HB GE101⟩⟩
    ·
     replace c22 := Bool.eq_false_iff.mpr c22
     subst c22
     have H1 : (longcaselaw06_BlockBack.j0 k a2 (l3.take ((ji7) : Int).toNat) t102 4 t103 t106 t109 t112 t115) = some r := by rw [if_neg (show ¬ (false = true) by decide)] at H; exact H
     clear H
     have H := H1
     clear H1
     have H' := Aside0.mk H
     clear H
     go_wp2
     go_meet
     case rel => exact ⟨_, (4), (by first | rfl | (simp; done) | (simp [*]; done)), H', ⟨by first | omega | exact Nat.le_refl _⟩, ⟨by (with_reducible repeat (first | apply Kd.R_alloc | apply Kd.R_drewN | apply Kd.R_drew)); exact Kd.R_mono (Sq.rf5 HO105 BK101) (fun _ hk => trivial)⟩, ⟨by (with_reducible repeat (first | apply Kd.R_alloc | apply Kd.R_drewN | apply Kd.R_drew)); exact Kd.R_mono (Sq.rf5 HO108 BK101) (fun _ hk => trivial)⟩, ⟨by (with_reducible repeat (first | apply Kd.R_alloc | apply Kd.R_drewN | apply Kd.R_drew)); exact Kd.R_mono (Sq.rf5 HO111 BK101) (fun _ hk => trivial)⟩, ⟨by (with_reducible repeat (first | apply Kd.R_alloc | apply Kd.R_drewN | apply Kd.R_drew)); exact Kd.R_mono (Sq.rf5 HO114 BK101) (fun _ hk => hk.1)⟩, ⟨by (with_reducible repeat (first | apply Kd.R_alloc | apply Kd.R_drewN | apply Kd.R_drew)); exact Kd.R_mono (Sq.rf5 HO117 BK101) (fun _ hk => hk.1)⟩, ⟨by (with_reducible repeat (first | refine blk_drewN ?_ _ | refine blk_drew ?_ | refine blk_alloc ?_ _)); refine blk_put (cs := #[.slice Ao15 t103.length co15, .slice Ao17 t106.length co17, .slice Ao18 t109.length co18, .slice Ao19 t112.length co19, .slice A0_4 l0_4.length c0_4]) ?_ 4 _ rfl; (with_reducible repeat (first | refine blk_drewN ?_ _ | refine blk_drew ?_ | refine blk_alloc ?_ _)); refine blk_put (cs := #[.slice Ao15 t103.length co15, .slice Ao17 t106.length co17, .slice Ao18 t109.length co18, .slice A0_3 l0_3.length c0_3, .slice A0_4 l0_4.length c0_4]) ?_ 3 _ rfl; (with_reducible repeat (first | refine blk_drewN ?_ _ | refine blk_drew ?_ | refine blk_alloc ?_ _)); refine blk_put (cs := #[.slice Ao15 t103.length co15, .slice Ao17 t106.length co17, .slice A0_2 l0_2.length c0_2, .slice A0_3 l0_3.length c0_3, .slice A0_4 l0_4.length c0_4]) ?_ 2 _ rfl; (with_reducible repeat (first | refine blk_drewN ?_ _ | refine blk_drew ?_ | refine blk_alloc ?_ _)); refine blk_put (cs := #[.slice Ao15 t103.length co15, .slice A0_1 l0_1.length c0_1, .slice A0_2 l0_2.length c0_2, .slice A0_3 l0_3.length c0_3, .slice A0_4 l0_4.length c0_4]) ?_ 1 _ rfl; (with_reducible repeat (first | refine blk_drewN ?_ _ | refine blk_drew ?_ | refine blk_alloc ?_ _)); refine blk_put (cs := #[.slice A0_0 l0_0.length c0_0, .slice A0_1 l0_1.length c0_1, .slice A0_2 l0_2.length c0_2, .slice A0_3 l0_3.length c0_3, .slice A0_4 l0_4.length c0_4]) ?_ 0 _ rfl; (with_reducible repeat (first | refine blk_drewN ?_ _ | refine blk_drew ?_ | refine blk_alloc ?_ _)); exact BK101.out⟩, ⟨Sq.kl1 HB GE101⟩⟩
   case rest =>
    clear HC10
    try clear c1
    try clear c2
    try clear p2
    try clear c3
    try clear c5
    try clear c8
    try clear c8b0
    try clear c8b1
    try clear c9
    try clear c9b0
    try clear c9b1
    try clear c11
    try clear c12
    try clear c22
    try clear hcz13_0
    try clear hcz13_1
    try clear hcz13_2
    try clear hcz13_3
    try clear hcz13_4
    try clear hcz16_0
    try clear hcz16_1
    try clear hcz16_2
    try clear hcz16_3
    try clear hcz16_4
    try clear hfz13_0
    try clear hfz13_1
    try clear hfz13_2
    try clear hfz13_3
    try clear hfz13_4
    try clear hfz16_0
    try clear hfz16_1
    try clear hfz16_2
    try clear hfz16_3
    try clear hfz16_4
    obtain ⟨kq, x10_9, rfl, HA, HJ9, HO_102000, HO_102001, HO_102002, HO_102003, HO_102004, BK101, HB⟩ := hcut
    cases kq with
    | zero => exact absurd HA.out (by simp [longcaselaw06_BlockBack.j0])
    | succ kj9 =>
     have H := HA.out
     clear HA
     simp only [longcaselaw06_BlockBack.j0] at H
     replace H := Option.bind_eq_some_iff.mp H
     obtain ⟨⟨t119, t122, t123, t124, t125, t126, t127, t128, t129⟩, A230, H⟩ := H
     try dsimp only at H
     have A23 := Aside0.mk A230
     clear A230
     by_cases c24 : t129 = 0
     ·
      rw [if_pos c24] at H
      have c24b0 : (t129 == 0) = true := beq_iff_eq.mpr c24
      have c24b1 : (t129 != 0) = false := bne_eq_false_iff_eq.mpr c24
      clear c24
      by_cases c25 : (t119.length : Int) = 0
      ·
       rw [if_pos c25] at H
       have c25b0 : ((t119.length : Int) == 0) = true := beq_iff_eq.mpr c25
       have c25b1 : ((t119.length : Int) != 0) = false := bne_eq_false_iff_eq.mpr c25
       clear c25
       obtain rfl := Option.some.inj H
       have hcz26_0 := kc BK101 0 rfl
       have hcz26_1 := kc BK101 1 rfl
       have hcz26_2 := kc BK101 2 rfl
       have hcz26_3 := kc BK101 3 rfl
       have hcz26_4 := kc BK101 4 rfl
       have hfz26_0 := blk_frozen BK101.out 0
       have hfz26_1 := blk_frozen BK101.out 1
       have hfz26_2 := blk_frozen BK101.out 2
       have hfz26_3 := blk_frozen BK101.out 3
       have hfz26_4 := blk_frozen BK101.out 4
       go_wp2_with (first | ((with_reducible refine gate_callee (f := 15) rfl ?_); refine goesL_ (some 34) rfl rfl Try.func15 (by kernel_rfl) rfl #[.agg #[.slice Ao15 t103.length co15, .slice Ao17 t106.length co17, .slice Ao18 t109.length co18, .slice Ao19 t112.length co19, .slice Ao20 t115.length co20], .int .i64 x10_9, .int .i64 (wrap64 (1 + (Go.bits .and .i64 a2 3)))] rfl (by (try simp only [List.map_toArray, List.map_cons, List.map_nil]); first | done | rfl | (simp only [List.length_drop, List.length_take]; rfl)) ?_; (with_reducible refine (block_Encode.calls _ _ t103 _ _ t106 _ _ t109 _ _ t112 _ _ t115 x10_9 (wrap64 (1 + (Go.bits .and .i64 a2 3))) t119 t122 t123 t124 t125 t126 t127 t128 t129 _ ?side1 ?side2 ?side3 ?side4 ?side5 ?side6 ?side7 ?side8 ?side9 ?side10 A23.out).mono ?_); (case side1 => exact Sq.qc HO_102000); (case side2 => exact Sq.ql HO_102000); (case side3 => exact Sq.qc HO_102001); (case side4 => exact Sq.ql HO_102001); (case side5 => exact Sq.qc HO_102002); (case side6 => exact Sq.ql HO_102002); (case side7 => exact Sq.qc HO_102003); (case side8 => exact Sq.ql HO_102003); (case side9 => exact Sq.qc HO_102004); (case side10 => exact Sq.ql HO_102004); rintro e w27 ⟨v120, rfl, ho0, hb⟩; refine ⟨_, rfl, ?_⟩; have n0_ := krb HO_102000 hb; have n1_ := krb HO_102001 hb; have n2_ := krb HO_102002 hb; have n3_ := krb HO_102003 hb; have n4_ := krb HO_102004 hb; have n5_ := Aside0.mk (Kd.R_lower ho0 (below_size (Sq.kl1 HB GE101))); have n6_ := kbb BK101 hb; have n7_ := Aside0.mk (below_step (Sq.kl1 HB GE101) hb); clear HO_102000; clear HO_102001; clear HO_102002; clear HO_102003; clear HO_102004; clear BK101; clear HB; have HO_102000 := n0_; have HO_102001 := n1_; have HO_102002 := n2_; have HO_102003 := n3_; have HO_102004 := n4_; have HO121 := n5_; have BK101 := n6_; have HB := n7_; clear n0_ n1_ n2_ n3_ n4_ n5_ n6_ n7_; (try clear hb); (try clear hb2); (try clear hk); (try clear hi); (try clear ho0)) | ((with_reducible refine gate_dst (N := 12) rfl ?_); refine box_event ?hg (N := 12) ?hd (cs := #[.int .i64 0, .int .i64 0, .int .i64 0, .int .i64 0, .int .i64 0, .int .i64 0, .int .i64 0]) (t := 35) ?hr ?_; (case hd => rfl); (case hg => rfl); (case hr => first | (go_simp; done) | (go_simp; rfl)); intro gb130 hg w28 hbox hb; have n0_ := krb HO_102000 hb; have n1_ := krb HO_102001 hb; have n2_ := krb HO_102002 hb; have n3_ := krb HO_102003 hb; have n4_ := krb HO_102004 hb; have n5_ := krb HO121 hb; have n6_ := kbb BK101 hb; have n7_ := Aside0.mk (below_step (Sq.kl1 HB GE101) hb); have n8_ := Aside0.mk (hbox); have n9_ := Aside0.mk ((by rw [hg]; exact (below_size (Sq.kl1 HB GE101)) : w.heap.size ≤ gb130)); have n10_ := Aside0.mk ((by rw [hg]; exact (below_size (Sq.kl1 HB GE101)) : w.heap.size ≤ gb130)); have n11_ := Aside0.mk ((by rw [hg]; exact Nat.ne_of_lt (blk_lt (kb BK101)) : gb101 ≠ gb130)); have n12_ := Aside0.mk ((by rw [hg]; exact Nat.ne_of_gt (blk_lt (kb BK101)) : gb130 ≠ gb101)); clear HO_102000; clear HO_102001; clear HO_102002; clear HO_102003; clear HO_102004; clear HO121; clear BK101; clear HB; have HO_102000 := n0_; have HO_102001 := n1_; have HO_102002 := n2_; have HO_102003 := n3_; have HO_102004 := n4_; have HO121 := n5_; have BK101 := n6_; have HB := n7_; have BK130 := n8_; have GW130 := n9_; have GE130 := n10_; have NB101_130 := n11_; have NB130_101 := n12_; clear n0_ n1_ n2_ n3_ n4_ n5_ n6_ n7_ n8_ n9_ n10_ n11_ n12_; clear hb hbox hg; have hnb29 := NB130_101.out; have hnc29 := NB101_130.out; have hcz30_0 := kc BK130 0 rfl; have hcz30_1 := kc BK130 1 rfl; have hcz30_2 := kc BK130 2 rfl; have hcz30_3 := kc BK130 3 rfl; have hcz30_4 := kc BK130 4 rfl; have hcz30_5 := kc BK130 5 rfl; have hcz30_6 := kc BK130 6 rfl; have hfz30_0 := blk_frozen BK130.out 0; have hfz30_1 := blk_frozen BK130.out 1; have hfz30_2 := blk_frozen BK130.out 2; have hfz30_3 := blk_frozen BK130.out 3; have hfz30_4 := blk_frozen BK130.out 4; have hfz30_5 := blk_frozen BK130.out 5; have hfz30_6 := blk_frozen BK130.out 6; obtain ⟨Ao31, co31, eo31⟩ := Kd.R_slice HO121.out; subst eo31))
       go_ret
       exact ⟨by first | rfl | (simp [errW_none, errW_some] <;> rfl) | (simp only [← hji7]; first | rfl | (simp [errW_none, errW_some] <;> rfl)) | (simp [*, errW_none, errW_some] <;> rfl), by repeat (first | (with_reducible first | exact HB.out | apply below_alloc | apply pw_below_drewN | apply below_drew1 | refine below_set ?_ GE101.out | refine below_set ?_ GE130.out) | exact HB.out)⟩
      ·
       rw [if_neg c25] at H
       have c25b0 : ((t119.length : Int) == 0) = false := beq_eq_false_iff_ne.mpr c25
       have c25b1 : ((t119.length : Int) != 0) = true := bne_iff_ne.mpr c25
       have c25b2 : ¬ (t119 = []) := fun h_ => c25 (by rw [h_]; rfl)
       obtain ⟨y132, hy132⟩ : ∃ y_ : List Int, y_ = (([] : List Int)) := ⟨_, rfl⟩
       replace H : (if y132.length + t119.length < 140737488355328 then ((some (y132 ++ t119 : List Int)).bind fun y135 => (if y135.length + (l3.take ((ji7) : Int).toNat).length < 140737488355328 then ((block_Decode.f (y135 ++ (l3.take ((ji7) : Int).toNat)) t122 t123 t124 t125 t126 t127 t128 x10_9).bind fun bt141 => (if 0 ≤ (wrap64 ((t119.length : Int) - 1)) then (if (wrap64 ((t119.length : Int) - 1)) ≤ (t119.length : Int) then ((block_Decode.f (t119.take ((wrap64 ((t119.length : Int) - 1)) : Int).toNat) t122 t123 t124 t125 t126 t127 t128 x10_9).bind fun bt162 => (if t102 = true then (if bt141.2.2.2.2.2 = 0 then ((longcaselaw06_ref.f t103 t106 t109 t112 t115).bind fun bt179 => ((longcaselaw06_ref.f bt141.1 bt141.2.1 bt141.2.2.1 bt141.2.2.2.1 bt141.2.2.2.2.1).bind fun bt194 => ((longcaseref06_Same.f bt179.1 bt179.2.1 bt179.2.2.1 bt179.2.2.2.1 bt179.2.2.2.2 bt194.1 bt194.2.1 bt194.2.2.1 bt194.2.2.2.1 bt194.2.2.2.2).bind fun t209 => (if t209 = true then (some (bt162.2.2.2.2.2 == 5)) else (some false))))) else (some false)) else (some false))) else (none)) else (none))) else (none))) else (none)) = some r := by first | (rw [hy132]; with_reducible exact H) | (have H2_ := (Option.bind_some _ _).symm.trans H; rw [hy132]; with_reducible exact H2_) | (have H2_ := (Option.bind_some _ _).symm.trans H; with_reducible exact H2_) | with_reducible exact H | (rw [hy132]; exact H) | exact H
       have Ny132 := Aside0.mk hy132
       clear hy132
       by_cases c32 : y132.length + t119.length < 140737488355328
       ·
        rw [if_pos c32] at H
        have LMc32 := Aside0.mk c32
        clear c32
        obtain ⟨y135, hy135⟩ : ∃ y_ : List Int, y_ = (y132 ++ t119) := ⟨_, rfl⟩
        replace H : (if y135.length + (l3.take ((ji7) : Int).toNat).length < 140737488355328 then ((block_Decode.f (y135 ++ (l3.take ((ji7) : Int).toNat)) t122 t123 t124 t125 t126 t127 t128 x10_9).bind fun bt141 => (if 0 ≤ (wrap64 ((t119.length : Int) - 1)) then (if (wrap64 ((t119.length : Int) - 1)) ≤ (t119.length : Int) then ((block_Decode.f (t119.take ((wrap64 ((t119.length : Int) - 1)) : Int).toNat) t122 t123 t124 t125 t126 t127 t128 x10_9).bind fun bt162 => (if t102 = true then (if bt141.2.2.2.2.2 = 0 then ((longcaselaw06_ref.f t103 t106 t109 t112 t115).bind fun bt179 => ((longcaselaw06_ref.f bt141.1 bt141.2.1 bt141.2.2.1 bt141.2.2.2.1 bt141.2.2.2.2.1).bind fun bt194 => ((longcaseref06_Same.f bt179.1 bt179.2.1 bt179.2.2.1 bt179.2.2.2.1 bt179.2.2.2.2 bt194.1 bt194.2.1 bt194.2.2.1 bt194.2.2.2.1 bt194.2.2.2.2).bind fun t209 => (if t209 = true then (some (bt162.2.2.2.2.2 == 5)) else (some false))))) else (some false)) else (some false))) else (none)) else (none))) else (none)) = some r := by first | (rw [hy135]; with_reducible exact H) | (have H2_ := (Option.bind_some _ _).symm.trans H; rw [hy135]; with_reducible exact H2_) | (have H2_ := (Option.bind_some _ _).symm.trans H; with_reducible exact H2_) | with_reducible exact H | (rw [hy135]; exact H) | exact H
        have Ny135 := Aside0.mk hy135
        clear hy135
        by_cases c33 : y135.length + (l3.take ((ji7) : Int).toNat).length < 140737488355328
        ·
         rw [if_pos c33] at H
         have LMc33 := Aside0.mk c33
         clear c33
         obtain ⟨y138, hy138⟩ : ∃ y_ : List Int, y_ = (y135 ++ (l3.take ((ji7) : Int).toNat)) := ⟨_, rfl⟩
         replace H : ((block_Decode.f y138 t122 t123 t124 t125 t126 t127 t128 x10_9).bind fun bt141 => (if 0 ≤ (wrap64 ((t119.length : Int) - 1)) then (if (wrap64 ((t119.length : Int) - 1)) ≤ (t119.length : Int) then ((block_Decode.f (t119.take ((wrap64 ((t119.length : Int) - 1)) : Int).toNat) t122 t123 t124 t125 t126 t127 t128 x10_9).bind fun bt162 => (if t102 = true then (if bt141.2.2.2.2.2 = 0 then ((longcaselaw06_ref.f t103 t106 t109 t112 t115).bind fun bt179 => ((longcaselaw06_ref.f bt141.1 bt141.2.1 bt141.2.2.1 bt141.2.2.2.1 bt141.2.2.2.2.1).bind fun bt194 => ((longcaseref06_Same.f bt179.1 bt179.2.1 bt179.2.2.1 bt179.2.2.2.1 bt179.2.2.2.2 bt194.1 bt194.2.1 bt194.2.2.1 bt194.2.2.2.1 bt194.2.2.2.2).bind fun t209 => (if t209 = true then (some (bt162.2.2.2.2.2 == 5)) else (some false))))) else (some false)) else (some false))) else (none)) else (none))) = some r := by first | (rw [hy138]; with_reducible exact H) | (have H2_ := (Option.bind_some _ _).symm.trans H; rw [hy138]; with_reducible exact H2_) | (have H2_ := (Option.bind_some _ _).symm.trans H; with_reducible exact H2_) | with_reducible exact H | (rw [hy138]; exact H) | exact H
         have Ny138 := Aside0.mk hy138
         clear hy138
         replace H := Option.bind_eq_some_iff.mp H
         obtain ⟨⟨t141, t144, t147, t150, t153, t156⟩, A340, H⟩ := H
         try dsimp only at H
         have A34 := Aside0.mk A340
         clear A340
         obtain ⟨ji35, hji35⟩ : ∃ j_ : Int, (wrap64 ((t119.length : Int) - 1)) = j_ := ⟨_, rfl⟩
         replace H : (if 0 ≤ (ji35) then (if (ji35) ≤ (t119.length : Int) then ((block_Decode.f (t119.take ((ji35) : Int).toNat) t122 t123 t124 t125 t126 t127 t128 x10_9).bind fun bt162 => (if t102 = true then (if t156 = 0 then ((longcaselaw06_ref.f t103 t106 t109 t112 t115).bind fun bt179 => ((longcaselaw06_ref.f t141 t144 t147 t150 t153).bind fun bt194 => ((longcaseref06_Same.f bt179.1 bt179.2.1 bt179.2.2.1 bt179.2.2.2.1 bt179.2.2.2.2 bt194.1 bt194.2.1 bt194.2.2.1 bt194.2.2.2.1 bt194.2.2.2.2).bind fun t209 => (if t209 = true then (some (bt162.2.2.2.2.2 == 5)) else (some false))))) else (some false)) else (some false))) else (none)) else (none)) = some r := by first | (rw [hji35] at H; exact H) | (simp only [hji35] at H ⊢; exact H)
         (try rw [hji35] at A23)
         (try rw [hji35] at A34)
         have hji35w : (IntKind.i64.wrap ((t119.length : Int) - 1)) = ji35 := (i64_w _).trans hji35
         by_cases c36 : 0 ≤ (ji35)
         ·
          rw [if_pos c36] at H
          have c36b0 := eq_true c36
          have c36b1 : decide (0 ≤ (ji35)) = true := decide_eq_true c36
          clear c36
          by_cases c37 : (ji35) ≤ (t119.length : Int)
          ·
           rw [if_pos c37] at H
           have c37b0 := eq_true c37
           have c37b1 : decide ((ji35) ≤ (t119.length : Int)) = true := decide_eq_true c37
           clear c37
           obtain ⟨y158, hy158⟩ : ∃ y_ : List Int, y_ = (t119.take ((ji35) : Int).toNat) := ⟨_, rfl⟩
           replace H : ((block_Decode.f y158 t122 t123 t124 t125 t126 t127 t128 x10_9).bind fun bt162 => (if t102 = true then (if t156 = 0 then ((longcaselaw06_ref.f t103 t106 t109 t112 t115).bind fun bt179 => ((longcaselaw06_ref.f t141 t144 t147 t150 t153).bind fun bt194 => ((longcaseref06_Same.f bt179.1 bt179.2.1 bt179.2.2.1 bt179.2.2.2.1 bt179.2.2.2.2 bt194.1 bt194.2.1 bt194.2.2.1 bt194.2.2.2.1 bt194.2.2.2.2).bind fun t209 => (if t209 = true then (some (bt162.2.2.2.2.2 == 5)) else (some false))))) else (some false)) else (some false))) = some r := by first | (rw [hy158]; with_reducible exact H) | (have H2_ := (Option.bind_some _ _).symm.trans H; rw [hy158]; with_reducible exact H2_) | (have H2_ := (Option.bind_some _ _).symm.trans H; with_reducible exact H2_) | with_reducible exact H | (rw [hy158]; exact H) | exact H
           have Ny158 := Aside0.mk hy158
           clear hy158
           replace H := Option.bind_eq_some_iff.mp H
           obtain ⟨⟨t162, t165, t168, t171, t174, t177⟩, A380, H⟩ := H
           try dsimp only at H
           have A38 := Aside0.mk A380
           clear A380
           by_cases c39 : t102 = true
           ·
            subst c39
            have H1 : (if t156 = 0 then ((longcaselaw06_ref.f t103 t106 t109 t112 t115).bind fun bt179 => ((longcaselaw06_ref.f t141 t144 t147 t150 t153).bind fun bt194 => ((longcaseref06_Same.f bt179.1 bt179.2.1 bt179.2.2.1 bt179.2.2.2.1 bt179.2.2.2.2 bt194.1 bt194.2.1 bt194.2.2.1 bt194.2.2.2.1 bt194.2.2.2.2).bind fun t209 => (if t209 = true then (some (t177 == 5)) else (some false))))) else (some false)) = some r := by rw [if_pos rfl] at H; exact H
            clear H
            have H := H1
            clear H1
            by_cases c40 : t156 = 0
            ·
             rw [if_pos c40] at H
             have c40b0 : (t156 == 0) = true := beq_iff_eq.mpr c40
             have c40b1 : (t156 != 0) = false := bne_eq_false_iff_eq.mpr c40
             clear c40
             replace H := Option.bind_eq_some_iff.mp H
             obtain ⟨⟨t179, t182, t185, t188, t191⟩, A410, H⟩ := H
             replace H : ((longcaselaw06_ref.f t141 t144 t147 t150 t153).bind fun bt194 => ((longcaseref06_Same.f t179 t182 t185 t188 t191 bt194.1 bt194.2.1 bt194.2.2.1 bt194.2.2.2.1 bt194.2.2.2.2).bind fun t209 => (if t209 = true then (some (t177 == 5)) else (some false)))) = some r := H
             have A41 := Aside0.mk A410
             clear A410
             replace H := Option.bind_eq_some_iff.mp H
             obtain ⟨⟨t194, t197, t200, t203, t206⟩, A420, H⟩ := H
             replace H : ((longcaseref06_Same.f t179 t182 t185 t188 t191 t194 t197 t200 t203 t206).bind fun t209 => (if t209 = true then (some (t177 == 5)) else (some false))) = some r := H
             have A42 := Aside0.mk A420
             clear A420
             replace H := Option.bind_eq_some_iff.mp H
             obtain ⟨t209, A430, H⟩ := H
             replace H : (if t209 = true then (some (t177 == 5)) else (some false)) = some r := H
             have A43 := Aside0.mk A430
             clear A430
             by_cases c44 : t209 = true
             ·
              subst c44
              have H1 : (some (t177 == 5)) = some r := by rw [if_pos rfl] at H; exact H
              clear H
              have H := H1
              clear H1
              obtain rfl := Option.some.inj H
              have hcz45_0 := kc BK101 0 rfl
              have hcz45_1 := kc BK101 1 rfl
              have hcz45_2 := kc BK101 2 rfl
              have hcz45_3 := kc BK101 3 rfl
              have hcz45_4 := kc BK101 4 rfl
              have hfz45_0 := blk_frozen BK101.out 0
              have hfz45_1 := blk_frozen BK101.out 1
              have hfz45_2 := blk_frozen BK101.out 2
              have hfz45_3 := blk_frozen BK101.out 3
              have hfz45_4 := blk_frozen BK101.out 4
              try go_wp2_with (first | ((with_reducible refine gate_callee (f := 15) rfl ?_); refine goesL_ (some 34) rfl rfl Try.func15 (by kernel_rfl) rfl #[.agg #[.slice Ao15 t103.length co15, .slice Ao17 t106.length co17, .slice Ao18 t109.length co18, .slice Ao19 t112.length co19, .slice Ao20 t115.length co20], .int .i64 x10_9, .int .i64 (wrap64 (1 + (Go.bits .and .i64 a2 3)))] rfl (by (try simp only [List.map_toArray, List.map_cons, List.map_nil]); first | done | rfl | (simp only [List.length_drop, List.length_take]; rfl)) ?_; (with_reducible refine (block_Encode.calls _ _ t103 _ _ t106 _ _ t109 _ _ t112 _ _ t115 x10_9 (wrap64 (1 + (Go.bits .and .i64 a2 3))) t119 t122 t123 t124 t125 t126 t127 t128 t129 _ ?side1 ?side2 ?side3 ?side4 ?side5 ?side6 ?side7 ?side8 ?side9 ?side10 A23.out).mono ?_); (case side1 => exact Sq.qc HO_102000); (case side2 => exact Sq.ql HO_102000); (case side3 => exact Sq.qc HO_102001); (case side4 => exact Sq.ql HO_102001); (case side5 => exact Sq.qc HO_102002); (case side6 => exact Sq.ql HO_102002); (case side7 => exact Sq.qc HO_102003); (case side8 => exact Sq.ql HO_102003); (case side9 => exact Sq.qc HO_102004); (case side10 => exact Sq.ql HO_102004); rintro e w46 ⟨v120, rfl, ho0, hb⟩; refine ⟨_, rfl, ?_⟩; have n0_ := krb HO_102000 hb; have n1_ := krb HO_102001 hb; have n2_ := krb HO_102002 hb; have n3_ := krb HO_102003 hb; have n4_ := krb HO_102004 hb; have n5_ := Aside0.mk (Kd.R_lower ho0 (below_size (Sq.kl1 HB GE101))); have n6_ := kbb BK101 hb; have n7_ := Aside0.mk (below_step (Sq.kl1 HB GE101) hb); clear HO_102000; clear HO_102001; clear HO_102002; clear HO_102003; clear HO_102004; clear BK101; clear HB; have HO_102000 := n0_; have HO_102001 := n1_; have HO_102002 := n2_; have HO_102003 := n3_; have HO_102004 := n4_; have HO121 := n5_; have BK101 := n6_; have HB := n7_; clear n0_ n1_ n2_ n3_ n4_ n5_ n6_ n7_; (try clear hb); (try clear hb2); (try clear hk); (try clear hi); (try clear ho0)) | ((with_reducible refine gate_dst (N := 12) rfl ?_); refine box_event ?hg (N := 12) ?hd (cs := #[.int .i64 0, .int .i64 0, .int .i64 0, .int .i64 0, .int .i64 0, .int .i64 0, .int .i64 0]) (t := 35) ?hr ?_; (case hd => rfl); (case hg => rfl); (case hr => first | (go_simp; done) | (go_simp; rfl)); intro gb130 hg w47 hbox hb; have n0_ := krb HO_102000 hb; have n1_ := krb HO_102001 hb; have n2_ := krb HO_102002 hb; have n3_ := krb HO_102003 hb; have n4_ := krb HO_102004 hb; have n5_ := krb HO121 hb; have n6_ := kbb BK101 hb; have n7_ := Aside0.mk (below_step (Sq.kl1 HB GE101) hb); have n8_ := Aside0.mk (hbox); have n9_ := Aside0.mk ((by rw [hg]; exact (below_size (Sq.kl1 HB GE101)) : w.heap.size ≤ gb130)); have n10_ := Aside0.mk ((by rw [hg]; exact (below_size (Sq.kl1 HB GE101)) : w.heap.size ≤ gb130)); have n11_ := Aside0.mk ((by rw [hg]; exact Nat.ne_of_lt (blk_lt (kb BK101)) : gb101 ≠ gb130)); have n12_ := Aside0.mk ((by rw [hg]; exact Nat.ne_of_gt (blk_lt (kb BK101)) : gb130 ≠ gb101)); clear HO_102000; clear HO_102001; clear HO_102002; clear HO_102003; clear HO_102004; clear HO121; clear BK101; clear HB; have HO_102000 := n0_; have HO_102001 := n1_; have HO_102002 := n2_; have HO_102003 := n3_; have HO_102004 := n4_; have HO121 := n5_; have BK101 := n6_; have HB := n7_; have BK130 := n8_; have GW130 := n9_; have GE130 := n10_; have NB101_130 := n11_; have NB130_101 := n12_; clear n0_ n1_ n2_ n3_ n4_ n5_ n6_ n7_ n8_ n9_ n10_ n11_ n12_; clear hb hbox hg; have hnb48 := NB130_101.out; have hnc48 := NB101_130.out; have hcz49_0 := kc BK130 0 rfl; have hcz49_1 := kc BK130 1 rfl; have hcz49_2 := kc BK130 2 rfl; have hcz49_3 := kc BK130 3 rfl; have hcz49_4 := kc BK130 4 rfl; have hcz49_5 := kc BK130 5 rfl; have hcz49_6 := kc BK130 6 rfl; have hfz49_0 := blk_frozen BK130.out 0; have hfz49_1 := blk_frozen BK130.out 1; have hfz49_2 := blk_frozen BK130.out 2; have hfz49_3 := blk_frozen BK130.out 3; have hfz49_4 := blk_frozen BK130.out 4; have hfz49_5 := blk_frozen BK130.out 5; have hfz49_6 := blk_frozen BK130.out 6; obtain ⟨Ao50, co50, eo50⟩ := Kd.R_slice HO121.out; subst eo50))
              obtain ⟨w51, hw_⟩ : ∃ x, x = (((((((w47.setCell ⟨gb130, 0, none⟩ (.int .i64 t122)).setCell ⟨gb130, 1, none⟩ (.int .i64 t123)).setCell ⟨gb130, 2, none⟩ (.int .i64 t124)).setCell ⟨gb130, 3, none⟩ (.int .i64 t125)).setCell ⟨gb130, 4, none⟩ (.int .i64 t126)).setCell ⟨gb130, 5, none⟩ (.int .i64 t127)).setCell ⟨gb130, 6, none⟩ (.int .i64 t128)) := ⟨_, rfl⟩
              have n0_ : Aside0 (Kd.R k56 56 w51 w.heap.size (fun _ => True) (.slice Ao15 t103.length co15) t103) := ⟨by rw [hw_]; (with_reducible repeat (first | apply Kd.R_alloc | apply Kd.R_drewN | apply Kd.R_drew)); exact Kd.R_mono (Sq.rf7 HO_102000 BK130) (fun _ hk => trivial)⟩
              have n1_ : Aside0 (Kd.R k54 54 w51 w.heap.size (fun _ => True) (.slice Ao17 t106.length co17) t106) := ⟨by rw [hw_]; (with_reducible repeat (first | apply Kd.R_alloc | apply Kd.R_drewN | apply Kd.R_drew)); exact Kd.R_mono (Sq.rf7 HO_102001 BK130) (fun _ hk => trivial)⟩
              have n2_ : Aside0 (Kd.R k67 67 w51 w.heap.size (fun _ => True) (.slice Ao18 t109.length co18) t109) := ⟨by rw [hw_]; (with_reducible repeat (first | apply Kd.R_alloc | apply Kd.R_drewN | apply Kd.R_drew)); exact Kd.R_mono (Sq.rf7 HO_102002 BK130) (fun _ hk => trivial)⟩
              have n3_ : Aside0 (Kd.R Kd.bool 4 w51 w.heap.size (fun k_ => some k_ ≠ (.slice Ao20 t115.length co20 : Value).ownBlock) (.slice Ao19 t112.length co19) t112) := ⟨by rw [hw_]; (with_reducible repeat (first | apply Kd.R_alloc | apply Kd.R_drewN | apply Kd.R_drew)); exact Kd.R_mono (Sq.rf7 HO_102003 BK130) (fun _ hk => hk.1)⟩
              have n4_ : Aside0 (Kd.R Kd.bool 4 w51 w.heap.size (fun k_ => some k_ ≠ (.slice Ao19 t112.length co19 : Value).ownBlock) (.slice Ao20 t115.length co20) t115) := ⟨by rw [hw_]; (with_reducible repeat (first | apply Kd.R_alloc | apply Kd.R_drewN | apply Kd.R_drew)); exact Kd.R_mono (Sq.rf7 HO_102004 BK130) (fun _ hk => hk.1)⟩
              have n5_ : Aside0 (Kd.R (Kd.int .u8) 5 w51 w.heap.size (fun _ => True) (.slice Ao50 t119.length co50) t119) := ⟨by rw [hw_]; (with_reducible repeat (first | apply Kd.R_alloc | apply Kd.R_drewN | apply Kd.R_drew)); exact Kd.R_mono (Sq.rf7 HO121 BK130) (fun _ hk => trivial)⟩
              have n6_ : Aside0 (w51.heap[gb101]? = some (.cells #[.slice Ao15 t103.length co15, .slice Ao17 t106.length co17, .slice Ao18 t109.length co18, .slice Ao19 t112.length co19, .slice Ao20 t115.length co20] 27 (0, 0))) := ⟨by rw [hw_]; (with_reducible repeat (first | refine blk_drewN ?_ _ | refine blk_drew ?_ | refine blk_alloc ?_ _)); refine blk_far ?_ NB101_130.out _; (with_reducible repeat (first | refine blk_drewN ?_ _ | refine blk_drew ?_ | refine blk_alloc ?_ _)); refine blk_far ?_ NB101_130.out _; (with_reducible repeat (first | refine blk_drewN ?_ _ | refine blk_drew ?_ | refine blk_alloc ?_ _)); refine blk_far ?_ NB101_130.out _; (with_reducible repeat (first | refine blk_drewN ?_ _ | refine blk_drew ?_ | refine blk_alloc ?_ _)); refine blk_far ?_ NB101_130.out _; (with_reducible repeat (first | refine blk_drewN ?_ _ | refine blk_drew ?_ | refine blk_alloc ?_ _)); refine blk_far ?_ NB101_130.out _; (with_reducible repeat (first | refine blk_drewN ?_ _ | refine blk_drew ?_ | refine blk_alloc ?_ _)); refine blk_far ?_ NB101_130.out _; (with_reducible repeat (first | refine blk_drewN ?_ _ | refine blk_drew ?_ | refine blk_alloc ?_ _)); refine blk_far ?_ NB101_130.out _; (with_reducible repeat (first | refine blk_drewN ?_ _ | refine blk_drew ?_ | refine blk_alloc ?_ _)); exact BK101.out⟩
              have n7_ : Aside0 (w51.heap[gb130]? = some (.cells #[.int .i64 t122, .int .i64 t123, .int .i64 t124, .int .i64 t125, .int .i64 t126, .int .i64 t127, .int .i64 t128] 35 (0, 0))) := ⟨by rw [hw_]; (with_reducible repeat (first | refine blk_drewN ?_ _ | refine blk_drew ?_ | refine blk_alloc ?_ _)); refine blk_put (cs := #[.int .i64 t122, .int .i64 t123, .int .i64 t124, .int .i64 t125, .int .i64 t126, .int .i64 t127, .int .i64 0]) ?_ 6 _ rfl; (with_reducible repeat (first | refine blk_drewN ?_ _ | refine blk_drew ?_ | refine blk_alloc ?_ _)); refine blk_put (cs := #[.int .i64 t122, .int .i64 t123, .int .i64 t124, .int .i64 t125, .int .i64 t126, .int .i64 0, .int .i64 0]) ?_ 5 _ rfl; (with_reducible repeat (first | refine blk_drewN ?_ _ | refine blk_drew ?_ | refine blk_alloc ?_ _)); refine blk_put (cs := #[.int .i64 t122, .int .i64 t123, .int .i64 t124, .int .i64 t125, .int .i64 0, .int .i64 0, .int .i64 0]) ?_ 4 _ rfl; (with_reducible repeat (first | refine blk_drewN ?_ _ | refine blk_drew ?_ | refine blk_alloc ?_ _)); refine blk_put (cs := #[.int .i64 t122, .int .i64 t123, .int .i64 t124, .int .i64 0, .int .i64 0, .int .i64 0, .int .i64 0]) ?_ 3 _ rfl; (with_reducible repeat (first | refine blk_drewN ?_ _ | refine blk_drew ?_ | refine blk_alloc ?_ _)); refine blk_put (cs := #[.int .i64 t122, .int .i64 t123, .int .i64 0, .int .i64 0, .int .i64 0, .int .i64 0, .int .i64 0]) ?_ 2 _ rfl; (with_reducible repeat (first | refine blk_drewN ?_ _ | refine blk_drew ?_ | refine blk_alloc ?_ _)); refine blk_put (cs := #[.int .i64 t122, .int .i64 0, .int .i64 0, .int .i64 0, .int .i64 0, .int .i64 0, .int .i64 0]) ?_ 1 _ rfl; (with_reducible repeat (first | refine blk_drewN ?_ _ | refine blk_drew ?_ | refine blk_alloc ?_ _)); refine blk_put (cs := #[.int .i64 0, .int .i64 0, .int .i64 0, .int .i64 0, .int .i64 0, .int .i64 0, .int .i64 0]) ?_ 0 _ rfl; (with_reducible repeat (first | refine blk_drewN ?_ _ | refine blk_drew ?_ | refine blk_alloc ?_ _)); exact BK130.out⟩
              have n8_ : Aside0 (Below w.heap.size w w51) := ⟨by rw [hw_]; exact Sq.kl2 HB GE101 GE130⟩
              (try clear HO_102000)
              (try clear HO_102001)
              (try clear HO_102002)
              (try clear HO_102003)
              (try clear HO_102004)
              (try clear HO121)
              (try clear BK101)
              (try clear BK130)
              (try clear HB)
              rw [← hw_]
              clear hw_
              have HO_102000 := n0_
              have HO_102001 := n1_
              have HO_102002 := n2_
              have HO_102003 := n3_
              have HO_102004 := n4_
              have HO121 := n5_
              have BK101 := n6_
              have BK130 := n7_
              have HB := n8_
              clear n0_ n1_ n2_ n3_ n4_ n5_ n6_ n7_ n8_
              have n0_ := Aside0.mk (Kd.R_drew HO_102000.out)
              have n1_ := Aside0.mk (Kd.R_drew HO_102001.out)
              have n2_ := Aside0.mk (Kd.R_drew HO_102002.out)
              have n3_ := Aside0.mk (Kd.R_drew HO_102003.out)
              have n4_ := Aside0.mk (Kd.R_drew HO_102004.out)
              have n5_ := Aside0.mk (Kd.R_drew HO121.out)
              have n6_ := Aside0.mk (blk_drew BK101.out)
              have n7_ := Aside0.mk (blk_drew BK130.out)
              have n8_ := Aside0.mk (below_drew1 HB.out)
              clear HO_102000
              clear HO_102001
              clear HO_102002
              clear HO_102003
              clear HO_102004
              clear HO121
              clear BK101
              clear BK130
              clear HB
              have HO_102000 := n0_
              have HO_102001 := n1_
              have HO_102002 := n2_
              have HO_102003 := n3_
              have HO_102004 := n4_
              have HO121 := n5_
              have BK101 := n6_
              have BK130 := n7_
              have HB := n8_
              clear n0_ n1_ n2_ n3_ n4_ n5_ n6_ n7_ n8_
              refine start_ (n := 14) (S := fun w' => w'.cell? ⟨gb130, 0, none⟩ = some (.int .i64 t122) ∧ w'.cell? ⟨gb130, 1, none⟩ = some (.int .i64 t123) ∧ w'.cell? ⟨gb130, 2, none⟩ = some (.int .i64 t124) ∧ w'.cell? ⟨gb130, 3, none⟩ = some (.int .i64 t125) ∧ w'.cell? ⟨gb130, 4, none⟩ = some (.int .i64 t126) ∧ w'.cell? ⟨gb130, 5, none⟩ = some (.int .i64 t127) ∧ w'.cell? ⟨gb130, 6, none⟩ = some (.int .i64 t128)) (ds := []) #[false, false, false, false, false, false, false, false, false, false, false, false, false, false] (by kernel_rfl) rfl rfl ⟨(blk_cell BK130.out 0).trans rfl, (blk_cell BK130.out 1).trans rfl, (blk_cell BK130.out 2).trans rfl, (blk_cell BK130.out 3).trans rfl, (blk_cell BK130.out 4).trans rfl, (blk_cell BK130.out 5).trans rfl, (blk_cell BK130.out 6).trans rfl⟩ (fun hHeld => ?_); refine with_tabW longcaselaw06_BlockBack.tab13 longcaselaw06_BlockBack.bits13 (fun HT_ HW_ => ?_)
              generalize w51.drew = w52 at HO_102000 HO_102001 HO_102002 HO_102003 HO_102004 HO121 BK101 BK130 HB hHeld ⊢
              refine Sq.pu 1 (some 53) (bm 14 2) HT_ ?_
              refine Sq.pu 3 (some 55) (bm 14 10) HT_ ?_
              refine Sq.pu 6 (some 58) (bm 14 74) HT_ ?_
              refine Sq.tk 5 (some 57) (bm 14 106) HT_ HW_ hHeld ?_
              refine join_ (σ := Value × Value × Value × Value × Value × Value × Value × Value × Nat) 2 #[true, true, true, true, true, true, true, true, true, true, true, true, false, false] (fun s_ => [(52, s_.1), (54, s_.2.1), (56, s_.2.2.1), (59, .tuple #[.agg #[s_.2.2.2.1, s_.2.2.2.2.1, s_.2.2.2.2.2.1, s_.2.2.2.2.2.2.1, s_.2.2.2.2.2.2.2.1], .int .i64 t156]), (14, .pointer (some ⟨s_.2.2.2.2.2.2.2.2, 0, none⟩)), (51, .tuple #[.agg #[s_.2.2.2.1, s_.2.2.2.2.1, s_.2.2.2.2.2.1, s_.2.2.2.2.2.2.1, s_.2.2.2.2.2.2.2.1], .int .i64 t156]), (60, .agg #[s_.2.2.2.1, s_.2.2.2.2.1, s_.2.2.2.2.2.1, s_.2.2.2.2.2.2.1, s_.2.2.2.2.2.2.2.1]), (61, .int .i64 t156)]) (fun s_ w' => (w'.cell? ⟨gb130, 0, none⟩ = some (.int .i64 t122) ∧ w'.cell? ⟨gb130, 1, none⟩ = some (.int .i64 t123) ∧ w'.cell? ⟨gb130, 2, none⟩ = some (.int .i64 t124) ∧ w'.cell? ⟨gb130, 3, none⟩ = some (.int .i64 t125) ∧ w'.cell? ⟨gb130, 4, none⟩ = some (.int .i64 t126) ∧ w'.cell? ⟨gb130, 5, none⟩ = some (.int .i64 t127) ∧ w'.cell? ⟨gb130, 6, none⟩ = some (.int .i64 t128)) ∧ (Kd.R (Kd.int .u8) 5 w' w.heap.size (fun k_ => some k_ ≠ (s_.2.2.1 : Value).ownBlock) (.slice Ao50 t119.length co50) t119) ∧ (Kd.R (Kd.int .u8) 5 w' w.heap.size (fun k_ => some k_ ≠ (.slice Ao50 t119.length co50 : Value).ownBlock) s_.2.2.1 y138) ∧ (Kd.R k56 56 w' w.heap.size (fun k_ => some k_ ≠ (.slice Ao15 t103.length co15 : Value).ownBlock) s_.2.2.2.1 t141) ∧ (Kd.R k54 54 w' w.heap.size (fun k_ => some k_ ≠ (.slice Ao17 t106.length co17 : Value).ownBlock) s_.2.2.2.2.1 t144) ∧ (Kd.R k67 67 w' w.heap.size (fun k_ => some k_ ≠ (.slice Ao18 t109.length co18 : Value).ownBlock) s_.2.2.2.2.2.1 t147) ∧ (Kd.R Kd.bool 4 w' w.heap.size (fun k_ => some k_ ≠ (s_.2.2.2.2.2.2.2.1 : Value).ownBlock ∧ some k_ ≠ (.slice Ao19 t112.length co19 : Value).ownBlock ∧ some k_ ≠ (.slice Ao20 t115.length co20 : Value).ownBlock) s_.2.2.2.2.2.2.1 t150) ∧ (Kd.R Kd.bool 4 w' w.heap.size (fun k_ => some k_ ≠ (s_.2.2.2.2.2.2.1 : Value).ownBlock ∧ some k_ ≠ (.slice Ao19 t112.length co19 : Value).ownBlock ∧ some k_ ≠ (.slice Ao20 t115.length co20 : Value).ownBlock) s_.2.2.2.2.2.2.2.1 t153) ∧ (Kd.R k56 56 w' w.heap.size (fun k_ => some k_ ≠ (s_.2.2.2.1 : Value).ownBlock) (.slice Ao15 t103.length co15) t103) ∧ (Kd.R k54 54 w' w.heap.size (fun k_ => some k_ ≠ (s_.2.2.2.2.1 : Value).ownBlock) (.slice Ao17 t106.length co17) t106) ∧ (Kd.R k67 67 w' w.heap.size (fun k_ => some k_ ≠ (s_.2.2.2.2.2.1 : Value).ownBlock) (.slice Ao18 t109.length co18) t109) ∧ (Kd.R Kd.bool 4 w' w.heap.size (fun k_ => some k_ ≠ (s_.2.2.2.2.2.2.1 : Value).ownBlock ∧ some k_ ≠ (s_.2.2.2.2.2.2.2.1 : Value).ownBlock ∧ some k_ ≠ (.slice Ao20 t115.length co20 : Value).ownBlock) (.slice Ao19 t112.length co19) t112) ∧ (Kd.R Kd.bool 4 w' w.heap.size (fun k_ => some k_ ≠ (s_.2.2.2.2.2.2.1 : Value).ownBlock ∧ some k_ ≠ (s_.2.2.2.2.2.2.2.1 : Value).ownBlock ∧ some k_ ≠ (.slice Ao19 t112.length co19 : Value).ownBlock) (.slice Ao20 t115.length co20) t115) ∧ (w'.heap[gb101]? = some (.cells #[.slice Ao15 t103.length co15, .slice Ao17 t106.length co17, .slice Ao18 t109.length co18, .slice Ao19 t112.length co19, .slice Ao20 t115.length co20] 27 (0, 0))) ∧ (w'.heap[gb130]? = some (.cells #[.int .i64 t122, .int .i64 t123, .int .i64 t124, .int .i64 t125, .int .i64 t126, .int .i64 t127, .int .i64 t128] 35 (0, 0))) ∧ (w'.heap[s_.2.2.2.2.2.2.2.2]? = some (.cells #[.slice none 0 0, .slice none 0 0, .slice none 0 0, .slice none 0 0, .slice none 0 0] 27 (0, 0))) ∧ (w.heap.size ≤ s_.2.2.2.2.2.2.2.2) ∧ (w.heap.size ≤ s_.2.2.2.2.2.2.2.2) ∧ (gb101 ≠ s_.2.2.2.2.2.2.2.2) ∧ (s_.2.2.2.2.2.2.2.2 ≠ gb101) ∧ (gb130 ≠ s_.2.2.2.2.2.2.2.2) ∧ (s_.2.2.2.2.2.2.2.2 ≠ gb130) ∧ (Below w.heap.size w w')) ?_ ?_
              rotate_left
              ·
               intro hJ0_2_4_7_11
               refine join_ (σ := Value × Value × Value × Value × Value × Value × Value × Value) 3 #[true, true, true, true, true, true, true, true, true, true, true, false, false, false] (fun s_ => [(52, s_.1), (54, s_.2.1), (56, s_.2.2.1), (59, .tuple #[.agg #[s_.2.2.2.1, s_.2.2.2.2.1, s_.2.2.2.2.2.1, s_.2.2.2.2.2.2.1, s_.2.2.2.2.2.2.2], .int .i64 t156]), (51, .tuple #[.agg #[s_.2.2.2.1, s_.2.2.2.2.1, s_.2.2.2.2.2.1, s_.2.2.2.2.2.2.1, s_.2.2.2.2.2.2.2], .int .i64 t156]), (60, .agg #[s_.2.2.2.1, s_.2.2.2.2.1, s_.2.2.2.2.2.1, s_.2.2.2.2.2.2.1, s_.2.2.2.2.2.2.2]), (61, .int .i64 t156)]) (fun s_ w' => (w'.cell? ⟨gb130, 0, none⟩ = some (.int .i64 t122) ∧ w'.cell? ⟨gb130, 1, none⟩ = some (.int .i64 t123) ∧ w'.cell? ⟨gb130, 2, none⟩ = some (.int .i64 t124) ∧ w'.cell? ⟨gb130, 3, none⟩ = some (.int .i64 t125) ∧ w'.cell? ⟨gb130, 4, none⟩ = some (.int .i64 t126) ∧ w'.cell? ⟨gb130, 5, none⟩ = some (.int .i64 t127) ∧ w'.cell? ⟨gb130, 6, none⟩ = some (.int .i64 t128)) ∧ (Kd.R (Kd.int .u8) 5 w' w.heap.size (fun k_ => some k_ ≠ (s_.2.2.1 : Value).ownBlock) (.slice Ao50 t119.length co50) t119) ∧ (Kd.R (Kd.int .u8) 5 w' w.heap.size (fun k_ => some k_ ≠ (.slice Ao50 t119.length co50 : Value).ownBlock) s_.2.2.1 y138) ∧ (Kd.R k56 56 w' w.heap.size (fun k_ => some k_ ≠ (.slice Ao15 t103.length co15 : Value).ownBlock) s_.2.2.2.1 t141) ∧ (Kd.R k54 54 w' w.heap.size (fun k_ => some k_ ≠ (.slice Ao17 t106.length co17 : Value).ownBlock) s_.2.2.2.2.1 t144) ∧ (Kd.R k67 67 w' w.heap.size (fun k_ => some k_ ≠ (.slice Ao18 t109.length co18 : Value).ownBlock) s_.2.2.2.2.2.1 t147) ∧ (Kd.R Kd.bool 4 w' w.heap.size (fun k_ => some k_ ≠ (s_.2.2.2.2.2.2.2 : Value).ownBlock ∧ some k_ ≠ (.slice Ao19 t112.length co19 : Value).ownBlock ∧ some k_ ≠ (.slice Ao20 t115.length co20 : Value).ownBlock) s_.2.2.2.2.2.2.1 t150) ∧ (Kd.R Kd.bool 4 w' w.heap.size (fun k_ => some k_ ≠ (s_.2.2.2.2.2.2.1 : Value).ownBlock ∧ some k_ ≠ (.slice Ao19 t112.length co19 : Value).ownBlock ∧ some k_ ≠ (.slice Ao20 t115.length co20 : Value).ownBlock) s_.2.2.2.2.2.2.2 t153) ∧ (Kd.R k56 56 w' w.heap.size (fun k_ => some k_ ≠ (s_.2.2.2.1 : Value).ownBlock) (.slice Ao15 t103.length co15) t103) ∧ (Kd.R k54 54 w' w.heap.size (fun k_ => some k_ ≠ (s_.2.2.2.2.1 : Value).ownBlock) (.slice Ao17 t106.length co17) t106) ∧ (Kd.R k67 67 w' w.heap.size (fun k_ => some k_ ≠ (s_.2.2.2.2.2.1 : Value).ownBlock) (.slice Ao18 t109.length co18) t109) ∧ (Kd.R Kd.bool 4 w' w.heap.size (fun k_ => some k_ ≠ (s_.2.2.2.2.2.2.1 : Value).ownBlock ∧ some k_ ≠ (s_.2.2.2.2.2.2.2 : Value).ownBlock ∧ some k_ ≠ (.slice Ao20 t115.length co20 : Value).ownBlock) (.slice Ao19 t112.length co19) t112) ∧ (Kd.R Kd.bool 4 w' w.heap.size (fun k_ => some k_ ≠ (s_.2.2.2.2.2.2.1 : Value).ownBlock ∧ some k_ ≠ (s_.2.2.2.2.2.2.2 : Value).ownBlock ∧ some k_ ≠ (.slice Ao19 t112.length co19 : Value).ownBlock) (.slice Ao20 t115.length co20) t115) ∧ (w'.heap[gb101]? = some (.cells #[.slice Ao15 t103.length co15, .slice Ao17 t106.length co17, .slice Ao18 t109.length co18, .slice Ao19 t112.length co19, .slice Ao20 t115.length co20] 27 (0, 0))) ∧ (w'.heap[gb130]? = some (.cells #[.int .i64 t122, .int .i64 t123, .int .i64 t124, .int .i64 t125, .int .i64 t126, .int .i64 t127, .int .i64 t128] 35 (0, 0))) ∧ (Below w.heap.size w w')) ?_ ?_
               rotate_left
               ·
                intro hJ0_2_4_7
                refine join_ (σ := Value × Value × Value × Nat) 6 #[true, true, true, true, true, true, true, false, false, false, false, true, false, false] (fun s_ => [(52, s_.1), (54, s_.2.1), (56, s_.2.2.1), (14, .pointer (some ⟨s_.2.2.2, 0, none⟩))]) (fun s_ w' => (w'.cell? ⟨gb130, 0, none⟩ = some (.int .i64 t122) ∧ w'.cell? ⟨gb130, 1, none⟩ = some (.int .i64 t123) ∧ w'.cell? ⟨gb130, 2, none⟩ = some (.int .i64 t124) ∧ w'.cell? ⟨gb130, 3, none⟩ = some (.int .i64 t125) ∧ w'.cell? ⟨gb130, 4, none⟩ = some (.int .i64 t126) ∧ w'.cell? ⟨gb130, 5, none⟩ = some (.int .i64 t127) ∧ w'.cell? ⟨gb130, 6, none⟩ = some (.int .i64 t128)) ∧ (Kd.R (Kd.int .u8) 5 w' w.heap.size (fun k_ => some k_ ≠ (s_.2.2.1 : Value).ownBlock) (.slice Ao50 t119.length co50) t119) ∧ (Kd.R (Kd.int .u8) 5 w' w.heap.size (fun k_ => some k_ ≠ (.slice Ao50 t119.length co50 : Value).ownBlock) s_.2.2.1 y138) ∧ (Kd.R k56 56 w' w.heap.size (fun _ => True) (.slice Ao15 t103.length co15) t103) ∧ (Kd.R k54 54 w' w.heap.size (fun _ => True) (.slice Ao17 t106.length co17) t106) ∧ (Kd.R k67 67 w' w.heap.size (fun _ => True) (.slice Ao18 t109.length co18) t109) ∧ (Kd.R Kd.bool 4 w' w.heap.size (fun k_ => some k_ ≠ (.slice Ao20 t115.length co20 : Value).ownBlock) (.slice Ao19 t112.length co19) t112) ∧ (Kd.R Kd.bool 4 w' w.heap.size (fun k_ => some k_ ≠ (.slice Ao19 t112.length co19 : Value).ownBlock) (.slice Ao20 t115.length co20) t115) ∧ (w'.heap[gb101]? = some (.cells #[.slice Ao15 t103.length co15, .slice Ao17 t106.length co17, .slice Ao18 t109.length co18, .slice Ao19 t112.length co19, .slice Ao20 t115.length co20] 27 (0, 0))) ∧ (w'.heap[gb130]? = some (.cells #[.int .i64 t122, .int .i64 t123, .int .i64 t124, .int .i64 t125, .int .i64 t126, .int .i64 t127, .int .i64 t128] 35 (0, 0))) ∧ (w'.heap[s_.2.2.2]? = some (.cells #[.slice none 0 0, .slice none 0 0, .slice none 0 0, .slice none 0 0, .slice none 0 0] 27 (0, 0))) ∧ (w.heap.size ≤ s_.2.2.2) ∧ (w.heap.size ≤ s_.2.2.2) ∧ (gb101 ≠ s_.2.2.2) ∧ (s_.2.2.2 ≠ gb101) ∧ (gb130 ≠ s_.2.2.2) ∧ (s_.2.2.2 ≠ gb130) ∧ (Below w.heap.size w w')) ?_ ?_
                rotate_left
                ·
                 intro hJ0_2_4_11
                 refine join_ (σ := Value × Value × Value) 7 #[true, true, true, true, true, true, true, false, false, false, false, false, false, false] (fun s_ => [(52, s_.1), (54, s_.2.1), (56, s_.2.2)]) (fun s_ w' => (w'.cell? ⟨gb130, 0, none⟩ = some (.int .i64 t122) ∧ w'.cell? ⟨gb130, 1, none⟩ = some (.int .i64 t123) ∧ w'.cell? ⟨gb130, 2, none⟩ = some (.int .i64 t124) ∧ w'.cell? ⟨gb130, 3, none⟩ = some (.int .i64 t125) ∧ w'.cell? ⟨gb130, 4, none⟩ = some (.int .i64 t126) ∧ w'.cell? ⟨gb130, 5, none⟩ = some (.int .i64 t127) ∧ w'.cell? ⟨gb130, 6, none⟩ = some (.int .i64 t128)) ∧ (Kd.R (Kd.int .u8) 5 w' w.heap.size (fun k_ => some k_ ≠ (s_.2.2 : Value).ownBlock) (.slice Ao50 t119.length co50) t119) ∧ (Kd.R (Kd.int .u8) 5 w' w.heap.size (fun k_ => some k_ ≠ (.slice Ao50 t119.length co50 : Value).ownBlock) s_.2.2 y138) ∧ (Kd.R k56 56 w' w.heap.size (fun _ => True) (.slice Ao15 t103.length co15) t103) ∧ (Kd.R k54 54 w' w.heap.size (fun _ => True) (.slice Ao17 t106.length co17) t106) ∧ (Kd.R k67 67 w' w.heap.size (fun _ => True) (.slice Ao18 t109.length co18) t109) ∧ (Kd.R Kd.bool 4 w' w.heap.size (fun k_ => some k_ ≠ (.slice Ao20 t115.length co20 : Value).ownBlock) (.slice Ao19 t112.length co19) t112) ∧ (Kd.R Kd.bool 4 w' w.heap.size (fun k_ => some k_ ≠ (.slice Ao19 t112.length co19 : Value).ownBlock) (.slice Ao20 t115.length co20) t115) ∧ (w'.heap[gb101]? = some (.cells #[.slice Ao15 t103.length co15, .slice Ao17 t106.length co17, .slice Ao18 t109.length co18, .slice Ao19 t112.length co19, .slice Ao20 t115.length co20] 27 (0, 0))) ∧ (w'.heap[gb130]? = some (.cells #[.int .i64 t122, .int .i64 t123, .int .i64 t124, .int .i64 t125, .int .i64 t126, .int .i64 t127, .int .i64 t128] 35 (0, 0))) ∧ (Below w.heap.size w w')) ?_ ?_
                 rotate_left
                 ·
                  intro hJ0_2_4
                  refine join_ (σ := Value × Value × Nat) 7 #[true, true, true, true, false, true, true, false, false, false, false, true, false, false] (fun s_ => [(52, s_.1), (54, s_.2.1), (14, .pointer (some ⟨s_.2.2, 0, none⟩))]) (fun s_ w' => (w'.cell? ⟨gb130, 0, none⟩ = some (.int .i64 t122) ∧ w'.cell? ⟨gb130, 1, none⟩ = some (.int .i64 t123) ∧ w'.cell? ⟨gb130, 2, none⟩ = some (.int .i64 t124) ∧ w'.cell? ⟨gb130, 3, none⟩ = some (.int .i64 t125) ∧ w'.cell? ⟨gb130, 4, none⟩ = some (.int .i64 t126) ∧ w'.cell? ⟨gb130, 5, none⟩ = some (.int .i64 t127) ∧ w'.cell? ⟨gb130, 6, none⟩ = some (.int .i64 t128)) ∧ (Kd.R (Kd.int .u8) 5 w' w.heap.size (fun k_ => some k_ ≠ (s_.2.1 : Value).ownBlock) (.slice Ao50 t119.length co50) t119) ∧ (Kd.R (Kd.int .u8) 5 w' w.heap.size (fun k_ => some k_ ≠ (.slice Ao50 t119.length co50 : Value).ownBlock) s_.2.1 y135) ∧ (Kd.R k56 56 w' w.heap.size (fun _ => True) (.slice Ao15 t103.length co15) t103) ∧ (Kd.R k54 54 w' w.heap.size (fun _ => True) (.slice Ao17 t106.length co17) t106) ∧ (Kd.R k67 67 w' w.heap.size (fun _ => True) (.slice Ao18 t109.length co18) t109) ∧ (Kd.R Kd.bool 4 w' w.heap.size (fun k_ => some k_ ≠ (.slice Ao20 t115.length co20 : Value).ownBlock) (.slice Ao19 t112.length co19) t112) ∧ (Kd.R Kd.bool 4 w' w.heap.size (fun k_ => some k_ ≠ (.slice Ao19 t112.length co19 : Value).ownBlock) (.slice Ao20 t115.length co20) t115) ∧ (w'.heap[gb101]? = some (.cells #[.slice Ao15 t103.length co15, .slice Ao17 t106.length co17, .slice Ao18 t109.length co18, .slice Ao19 t112.length co19, .slice Ao20 t115.length co20] 27 (0, 0))) ∧ (w'.heap[gb130]? = some (.cells #[.int .i64 t122, .int .i64 t123, .int .i64 t124, .int .i64 t125, .int .i64 t126, .int .i64 t127, .int .i64 t128] 35 (0, 0))) ∧ (w'.heap[s_.2.2]? = some (.cells #[.slice none 0 0, .slice none 0 0, .slice none 0 0, .slice none 0 0, .slice none 0 0] 27 (0, 0))) ∧ (w.heap.size ≤ s_.2.2) ∧ (w.heap.size ≤ s_.2.2) ∧ (gb101 ≠ s_.2.2) ∧ (s_.2.2 ≠ gb101) ∧ (gb130 ≠ s_.2.2) ∧ (s_.2.2 ≠ gb130) ∧ (Below w.heap.size w w')) ?_ ?_
                  rotate_left
                  ·
                   intro hJ0_2_11
                   refine join_ (σ := Value × Value) 8 #[true, true, true, true, false, true, true, false, false, false, false, false, false, false] (fun s_ => [(52, s_.1), (54, s_.2)]) (fun s_ w' => (w'.cell? ⟨gb130, 0, none⟩ = some (.int .i64 t122) ∧ w'.cell? ⟨gb130, 1, none⟩ = some (.int .i64 t123) ∧ w'.cell? ⟨gb130, 2, none⟩ = some (.int .i64 t124) ∧ w'.cell? ⟨gb130, 3, none⟩ = some (.int .i64 t125) ∧ w'.cell? ⟨gb130, 4, none⟩ = some (.int .i64 t126) ∧ w'.cell? ⟨gb130, 5, none⟩ = some (.int .i64 t127) ∧ w'.cell? ⟨gb130, 6, none⟩ = some (.int .i64 t128)) ∧ (Kd.R (Kd.int .u8) 5 w' w.heap.size (fun k_ => some k_ ≠ (s_.2 : Value).ownBlock) (.slice Ao50 t119.length co50) t119) ∧ (Kd.R (Kd.int .u8) 5 w' w.heap.size (fun k_ => some k_ ≠ (.slice Ao50 t119.length co50 : Value).ownBlock) s_.2 y135) ∧ (Kd.R k56 56 w' w.heap.size (fun _ => True) (.slice Ao15 t103.length co15) t103) ∧ (Kd.R k54 54 w' w.heap.size (fun _ => True) (.slice Ao17 t106.length co17) t106) ∧ (Kd.R k67 67 w' w.heap.size (fun _ => True) (.slice Ao18 t109.length co18) t109) ∧ (Kd.R Kd.bool 4 w' w.heap.size (fun k_ => some k_ ≠ (.slice Ao20 t115.length co20 : Value).ownBlock) (.slice Ao19 t112.length co19) t112) ∧ (Kd.R Kd.bool 4 w' w.heap.size (fun k_ => some k_ ≠ (.slice Ao19 t112.length co19 : Value).ownBlock) (.slice Ao20 t115.length co20) t115) ∧ (w'.heap[gb101]? = some (.cells #[.slice Ao15 t103.length co15, .slice Ao17 t106.length co17, .slice Ao18 t109.length co18, .slice Ao19 t112.length co19, .slice Ao20 t115.length co20] 27 (0, 0))) ∧ (w'.heap[gb130]? = some (.cells #[.int .i64 t122, .int .i64 t123, .int .i64 t124, .int .i64 t125, .int .i64 t126, .int .i64 t127, .int .i64 t128] 35 (0, 0))) ∧ (Below w.heap.size w w')) ?_ ?_
                   rotate_left
                   ·
                    intro hJ0_2
                    refine join_ (σ := Value × Nat) 8 #[true, true, false, true, false, true, true, false, false, false, false, true, false, false] (fun s_ => [(52, s_.1), (14, .pointer (some ⟨s_.2, 0, none⟩))]) (fun s_ w' => (w'.cell? ⟨gb130, 0, none⟩ = some (.int .i64 t122) ∧ w'.cell? ⟨gb130, 1, none⟩ = some (.int .i64 t123) ∧ w'.cell? ⟨gb130, 2, none⟩ = some (.int .i64 t124) ∧ w'.cell? ⟨gb130, 3, none⟩ = some (.int .i64 t125) ∧ w'.cell? ⟨gb130, 4, none⟩ = some (.int .i64 t126) ∧ w'.cell? ⟨gb130, 5, none⟩ = some (.int .i64 t127) ∧ w'.cell? ⟨gb130, 6, none⟩ = some (.int .i64 t128)) ∧ (Kd.R (Kd.int .u8) 5 w' w.heap.size (fun k_ => some k_ ≠ (s_.1 : Value).ownBlock) (.slice Ao50 t119.length co50) t119) ∧ (Kd.R (Kd.int .u8) 5 w' w.heap.size (fun k_ => some k_ ≠ (.slice Ao50 t119.length co50 : Value).ownBlock) s_.1 y132) ∧ (Kd.R k56 56 w' w.heap.size (fun _ => True) (.slice Ao15 t103.length co15) t103) ∧ (Kd.R k54 54 w' w.heap.size (fun _ => True) (.slice Ao17 t106.length co17) t106) ∧ (Kd.R k67 67 w' w.heap.size (fun _ => True) (.slice Ao18 t109.length co18) t109) ∧ (Kd.R Kd.bool 4 w' w.heap.size (fun k_ => some k_ ≠ (.slice Ao20 t115.length co20 : Value).ownBlock) (.slice Ao19 t112.length co19) t112) ∧ (Kd.R Kd.bool 4 w' w.heap.size (fun k_ => some k_ ≠ (.slice Ao19 t112.length co19 : Value).ownBlock) (.slice Ao20 t115.length co20) t115) ∧ (w'.heap[gb101]? = some (.cells #[.slice Ao15 t103.length co15, .slice Ao17 t106.length co17, .slice Ao18 t109.length co18, .slice Ao19 t112.length co19, .slice Ao20 t115.length co20] 27 (0, 0))) ∧ (w'.heap[gb130]? = some (.cells #[.int .i64 t122, .int .i64 t123, .int .i64 t124, .int .i64 t125, .int .i64 t126, .int .i64 t127, .int .i64 t128] 35 (0, 0))) ∧ (w'.heap[s_.2]? = some (.cells #[.slice none 0 0, .slice none 0 0, .slice none 0 0, .slice none 0 0, .slice none 0 0] 27 (0, 0))) ∧ (w.heap.size ≤ s_.2) ∧ (w.heap.size ≤ s_.2) ∧ (gb101 ≠ s_.2) ∧ (s_.2 ≠ gb101) ∧ (gb130 ≠ s_.2) ∧ (s_.2 ≠ gb130) ∧ (Below w.heap.size w w')) ?_ ?_
                    rotate_left
                    ·
                     intro hJ0_11
                     refine join_ (σ := Value) 9 #[true, true, false, true, false, true, true, false, false, false, false, false, false, false] (fun s_ => [(52, s_)]) (fun s_ w' => (w'.cell? ⟨gb130, 0, none⟩ = some (.int .i64 t122) ∧ w'.cell? ⟨gb130, 1, none⟩ = some (.int .i64 t123) ∧ w'.cell? ⟨gb130, 2, none⟩ = some (.int .i64 t124) ∧ w'.cell? ⟨gb130, 3, none⟩ = some (.int .i64 t125) ∧ w'.cell? ⟨gb130, 4, none⟩ = some (.int .i64 t126) ∧ w'.cell? ⟨gb130, 5, none⟩ = some (.int .i64 t127) ∧ w'.cell? ⟨gb130, 6, none⟩ = some (.int .i64 t128)) ∧ (Kd.R (Kd.int .u8) 5 w' w.heap.size (fun k_ => some k_ ≠ (s_ : Value).ownBlock) (.slice Ao50 t119.length co50) t119) ∧ (Kd.R (Kd.int .u8) 5 w' w.heap.size (fun k_ => some k_ ≠ (.slice Ao50 t119.length co50 : Value).ownBlock) s_ y132) ∧ (Kd.R k56 56 w' w.heap.size (fun _ => True) (.slice Ao15 t103.length co15) t103) ∧ (Kd.R k54 54 w' w.heap.size (fun _ => True) (.slice Ao17 t106.length co17) t106) ∧ (Kd.R k67 67 w' w.heap.size (fun _ => True) (.slice Ao18 t109.length co18) t109) ∧ (Kd.R Kd.bool 4 w' w.heap.size (fun k_ => some k_ ≠ (.slice Ao20 t115.length co20 : Value).ownBlock) (.slice Ao19 t112.length co19) t112) ∧ (Kd.R Kd.bool 4 w' w.heap.size (fun k_ => some k_ ≠ (.slice Ao19 t112.length co19 : Value).ownBlock) (.slice Ao20 t115.length co20) t115) ∧ (w'.heap[gb101]? = some (.cells #[.slice Ao15 t103.length co15, .slice Ao17 t106.length co17, .slice Ao18 t109.length co18, .slice Ao19 t112.length co19, .slice Ao20 t115.length co20] 27 (0, 0))) ∧ (w'.heap[gb130]? = some (.cells #[.int .i64 t122, .int .i64 t123, .int .i64 t124, .int .i64 t125, .int .i64 t126, .int .i64 t127, .int .i64 t128] 35 (0, 0))) ∧ (Below w.heap.size w w')) ?_ ?_
                     rotate_left
                     ·
                      intro hJ0
                      refine join_ (σ := Nat) 9 #[false, true, false, true, false, true, true, false, false, false, false, true, false, false] (fun s_ => [(14, .pointer (some ⟨s_, 0, none⟩))]) (fun s_ w' => (w'.cell? ⟨gb130, 0, none⟩ = some (.int .i64 t122) ∧ w'.cell? ⟨gb130, 1, none⟩ = some (.int .i64 t123) ∧ w'.cell? ⟨gb130, 2, none⟩ = some (.int .i64 t124) ∧ w'.cell? ⟨gb130, 3, none⟩ = some (.int .i64 t125) ∧ w'.cell? ⟨gb130, 4, none⟩ = some (.int .i64 t126) ∧ w'.cell? ⟨gb130, 5, none⟩ = some (.int .i64 t127) ∧ w'.cell? ⟨gb130, 6, none⟩ = some (.int .i64 t128)) ∧ (Kd.R (Kd.int .u8) 5 w' w.heap.size (fun _ => True) (.slice Ao50 t119.length co50) t119) ∧ (Kd.R k56 56 w' w.heap.size (fun _ => True) (.slice Ao15 t103.length co15) t103) ∧ (Kd.R k54 54 w' w.heap.size (fun _ => True) (.slice Ao17 t106.length co17) t106) ∧ (Kd.R k67 67 w' w.heap.size (fun _ => True) (.slice Ao18 t109.length co18) t109) ∧ (Kd.R Kd.bool 4 w' w.heap.size (fun k_ => some k_ ≠ (.slice Ao20 t115.length co20 : Value).ownBlock) (.slice Ao19 t112.length co19) t112) ∧ (Kd.R Kd.bool 4 w' w.heap.size (fun k_ => some k_ ≠ (.slice Ao19 t112.length co19 : Value).ownBlock) (.slice Ao20 t115.length co20) t115) ∧ (w'.heap[gb101]? = some (.cells #[.slice Ao15 t103.length co15, .slice Ao17 t106.length co17, .slice Ao18 t109.length co18, .slice Ao19 t112.length co19, .slice Ao20 t115.length co20] 27 (0, 0))) ∧ (w'.heap[gb130]? = some (.cells #[.int .i64 t122, .int .i64 t123, .int .i64 t124, .int .i64 t125, .int .i64 t126, .int .i64 t127, .int .i64 t128] 35 (0, 0))) ∧ (w'.heap[s_]? = some (.cells #[.slice none 0 0, .slice none 0 0, .slice none 0 0, .slice none 0 0, .slice none 0 0] 27 (0, 0))) ∧ (w.heap.size ≤ s_) ∧ (w.heap.size ≤ s_) ∧ (gb101 ≠ s_) ∧ (s_ ≠ gb101) ∧ (gb130 ≠ s_) ∧ (s_ ≠ gb130) ∧ (Below w.heap.size w w')) ?_ ?_
                      rotate_left
                      ·
                       intro hJ11
                       refine two_ (i := 0) (j := 11) (Ni := some 52) (Nj := some 14) (bm 14 107) (bm 14 2154) rfl rfl rfl rfl (two_of HT_.out (by kernel_rfl)) (by decide) (by decide) (fun K hK => ?_) (fun K hK => ?_)
                       ·
                        skip
                        refine Kd.R_lit_step (Kd.int .u8) _ 5 ?hg (N := 52) ?hd (xs := ([] : List Int)) (inner := []) (ok := fun _ => True) (okp := fun _ => True) ?hr ?hp (fun _ hk => hk) trivial (Below.refl _ _) (Nat.le_refl _) (by simp) ?_; (case hd => rfl); (case hg => rfl); (case hr => first | (go_simp; done) | (go_simp; rfl)); (case hp => exact (Reps.none _ _))
                        intro v133 w53 ho54 hb hg_ hnew_
                        clear hg_ hnew_
                        (first | rw [← Ny132.out] at ho54 | (simp only [Int.reduceToNat] at ho54; rw [← Ny132.out] at ho54))
                        have n0_ := krb HO_102000 hb
                        have n1_ := krb HO_102001 hb
                        have n2_ := krb HO_102002 hb
                        have n3_ := krb HO_102003 hb
                        have n4_ := krb HO_102004 hb
                        have n5_ := Aside0.mk (Kd.R_elder' (kr HO121) (Kd.R_base ho54) hb)
                        have n6_ := Aside0.mk (Kd.R_lower (Kd.R_new' ho54 (Kd.R_lt (kr HO121))) (below_size (Sq.kl2 HB GE101 GE130)))
                        have n7_ := kbb BK101 hb
                        have n8_ := kbb BK130 hb
                        have n9_ := Aside0.mk (below_step (Sq.kl2 HB GE101 GE130) hb)
                        clear HO_102000
                        clear HO_102001
                        clear HO_102002
                        clear HO_102003
                        clear HO_102004
                        clear HO121
                        clear BK101
                        clear BK130
                        clear HB
                        have HO_102000 := n0_
                        have HO_102001 := n1_
                        have HO_102002 := n2_
                        have HO_102003 := n3_
                        have HO_102004 := n4_
                        have HO121 := n5_
                        have HO134 := n6_
                        have BK101 := n7_
                        have BK130 := n8_
                        have HB := n9_
                        clear n0_ n1_ n2_ n3_ n4_ n5_ n6_ n7_ n8_ n9_
                        clear hb ho54
                        refine hK.out _ _ ⟨(blk_cell BK130.out 0).trans rfl, (blk_cell BK130.out 1).trans rfl, (blk_cell BK130.out 2).trans rfl, (blk_cell BK130.out 3).trans rfl, (blk_cell BK130.out 4).trans rfl, (blk_cell BK130.out 5).trans rfl, (blk_cell BK130.out 6).trans rfl⟩ (fun hHeld => ?_)
                        clear hK K
                        refine norm_ (a' := ?_) ?_ ?_
                        rotate_left
                        ·
                         show Act.put _ (some 52) _ = _
                         simp only [Act.put, List.setIfInBounds_toArray, List.set_cons_zero, List.set_cons_succ, i64_w, i32_w]
                         rfl
                        exact norm_ (by first | (simp only [putAll, Act.put, List.setIfInBounds_toArray, List.set_cons_zero, List.set_cons_succ]; done) | (simp only [putAll, Act.put, List.setIfInBounds_toArray, List.set_cons_zero, List.set_cons_succ]; rfl)) (hJ0 (v133) _ ⟨hHeld, (by (with_reducible repeat (first | apply Kd.R_alloc | apply Kd.R_drewN | apply Kd.R_drew)); exact Kd.R_mono HO121.out (fun _ hk => hk.2)), (by (with_reducible repeat (first | apply Kd.R_alloc | apply Kd.R_drewN | apply Kd.R_drew)); exact Kd.R_mono HO134.out (fun _ hk => hk.2)), (kr HO_102000), (kr HO_102001), (kr HO_102002), (kr HO_102003), (kr HO_102004), (kb BK101), (kb BK130), (Sq.kl2 HB GE101 GE130)⟩)
                       ·
                        skip
                        refine box_step ?hg (N := 14) ?hd (cs := #[.slice none 0 0, .slice none 0 0, .slice none 0 0, .slice none 0 0, .slice none 0 0]) (t := 27) ?hr ?_; (case hd => rfl); (case hg => rfl); (case hr => first | (go_simp; done) | (go_simp; rfl))
                        intro gb157 hg w53 hbox hb
                        have n0_ := krb HO_102000 hb
                        have n1_ := krb HO_102001 hb
                        have n2_ := krb HO_102002 hb
                        have n3_ := krb HO_102003 hb
                        have n4_ := krb HO_102004 hb
                        have n5_ := krb HO121 hb
                        have n6_ := kbb BK101 hb
                        have n7_ := kbb BK130 hb
                        have n8_ := Aside0.mk (below_step (Sq.kl2 HB GE101 GE130) hb)
                        have n9_ := Aside0.mk (hbox)
                        have n10_ := Aside0.mk ((by rw [hg]; exact (below_size (Sq.kl2 HB GE101 GE130)) : w.heap.size ≤ gb157))
                        have n11_ := Aside0.mk ((by rw [hg]; exact (below_size (Sq.kl2 HB GE101 GE130)) : w.heap.size ≤ gb157))
                        have n12_ := Aside0.mk ((by rw [hg]; exact Nat.ne_of_lt (blk_lt (kb BK101)) : gb101 ≠ gb157))
                        have n13_ := Aside0.mk ((by rw [hg]; exact Nat.ne_of_gt (blk_lt (kb BK101)) : gb157 ≠ gb101))
                        have n14_ := Aside0.mk ((by rw [hg]; exact Nat.ne_of_lt (blk_lt (kb BK130)) : gb130 ≠ gb157))
                        have n15_ := Aside0.mk ((by rw [hg]; exact Nat.ne_of_gt (blk_lt (kb BK130)) : gb157 ≠ gb130))
                        clear HO_102000
                        clear HO_102001
                        clear HO_102002
                        clear HO_102003
                        clear HO_102004
                        clear HO121
                        clear BK101
                        clear BK130
                        clear HB
                        have HO_102000 := n0_
                        have HO_102001 := n1_
                        have HO_102002 := n2_
                        have HO_102003 := n3_
                        have HO_102004 := n4_
                        have HO121 := n5_
                        have BK101 := n6_
                        have BK130 := n7_
                        have HB := n8_
                        have BK157 := n9_
                        have GW157 := n10_
                        have GE157 := n11_
                        have NB101_157 := n12_
                        have NB157_101 := n13_
                        have NB130_157 := n14_
                        have NB157_130 := n15_
                        clear n0_ n1_ n2_ n3_ n4_ n5_ n6_ n7_ n8_ n9_ n10_ n11_ n12_ n13_ n14_ n15_
                        clear hb hbox hg
                        refine hK.out _ _ ⟨(blk_cell BK130.out 0).trans rfl, (blk_cell BK130.out 1).trans rfl, (blk_cell BK130.out 2).trans rfl, (blk_cell BK130.out 3).trans rfl, (blk_cell BK130.out 4).trans rfl, (blk_cell BK130.out 5).trans rfl, (blk_cell BK130.out 6).trans rfl⟩ (fun hHeld => ?_)
                        clear hK K
                        refine norm_ (a' := ?_) ?_ ?_
                        rotate_left
                        ·
                         show Act.put _ (some 14) _ = _
                         simp only [Act.put, List.setIfInBounds_toArray, List.set_cons_zero, List.set_cons_succ, i64_w, i32_w]
                         rfl
                        exact norm_ (by first | (simp only [putAll, Act.put, List.setIfInBounds_toArray, List.set_cons_zero, List.set_cons_succ]; done) | (simp only [putAll, Act.put, List.setIfInBounds_toArray, List.set_cons_zero, List.set_cons_succ]; rfl)) (hJ11 (gb157) _ ⟨hHeld, (kr HO121), (kr HO_102000), (kr HO_102001), (kr HO_102002), (kr HO_102003), (kr HO_102004), (kb BK101), (kb BK130), (kb BK157), GW157.out, GE157.out, NB101_157.out, NB157_101.out, NB130_157.out, NB157_130.out, (Sq.kl3 HB GE101 GE130 GE157)⟩)
                      ·
                       skip
                       rintro gb157 w54 ⟨hS_, h0_, h1_, h2_, h3_, h4_, h5_, h6_, h7_, h8_, h9_, h10_, h11_, h12_, h13_, h14_, h15_⟩
                       have n0_ : Aside0 (Kd.R (Kd.int .u8) 5 w54 w.heap.size (fun _ => True) (.slice Ao50 t119.length co50) t119) := ⟨h0_⟩
                       have n1_ : Aside0 (Kd.R k56 56 w54 w.heap.size (fun _ => True) (.slice Ao15 t103.length co15) t103) := ⟨h1_⟩
                       have n2_ : Aside0 (Kd.R k54 54 w54 w.heap.size (fun _ => True) (.slice Ao17 t106.length co17) t106) := ⟨h2_⟩
                       have n3_ : Aside0 (Kd.R k67 67 w54 w.heap.size (fun _ => True) (.slice Ao18 t109.length co18) t109) := ⟨h3_⟩
                       have n4_ : Aside0 (Kd.R Kd.bool 4 w54 w.heap.size (fun k_ => some k_ ≠ (.slice Ao20 t115.length co20 : Value).ownBlock) (.slice Ao19 t112.length co19) t112) := ⟨h4_⟩
                       have n5_ : Aside0 (Kd.R Kd.bool 4 w54 w.heap.size (fun k_ => some k_ ≠ (.slice Ao19 t112.length co19 : Value).ownBlock) (.slice Ao20 t115.length co20) t115) := ⟨h5_⟩
                       have n6_ : Aside0 (w54.heap[gb101]? = some (.cells #[.slice Ao15 t103.length co15, .slice Ao17 t106.length co17, .slice Ao18 t109.length co18, .slice Ao19 t112.length co19, .slice Ao20 t115.length co20] 27 (0, 0))) := ⟨h6_⟩
                       have n7_ : Aside0 (w54.heap[gb130]? = some (.cells #[.int .i64 t122, .int .i64 t123, .int .i64 t124, .int .i64 t125, .int .i64 t126, .int .i64 t127, .int .i64 t128] 35 (0, 0))) := ⟨h7_⟩
                       have n8_ : Aside0 (w54.heap[gb157]? = some (.cells #[.slice none 0 0, .slice none 0 0, .slice none 0 0, .slice none 0 0, .slice none 0 0] 27 (0, 0))) := ⟨h8_⟩
                       have n9_ : Aside0 (w.heap.size ≤ gb157) := ⟨h9_⟩
                       have n10_ : Aside0 (w.heap.size ≤ gb157) := ⟨h10_⟩
                       have n11_ : Aside0 (gb101 ≠ gb157) := ⟨h11_⟩
                       have n12_ : Aside0 (gb157 ≠ gb101) := ⟨h12_⟩
                       have n13_ : Aside0 (gb130 ≠ gb157) := ⟨h13_⟩
                       have n14_ : Aside0 (gb157 ≠ gb130) := ⟨h14_⟩
                       have n15_ : Aside0 (Below w.heap.size w w54) := ⟨h15_⟩
                       clear HO_102000
                       clear HO_102001
                       clear HO_102002
                       clear HO_102003
                       clear HO_102004
                       clear HO121
                       clear BK101
                       clear BK130
                       clear HB
                       clear h0_ h1_ h2_ h3_ h4_ h5_ h6_ h7_ h8_ h9_ h10_ h11_ h12_ h13_ h14_ h15_
                       have HO121 := n0_
                       have HO_102000 := n1_
                       have HO_102001 := n2_
                       have HO_102002 := n3_
                       have HO_102003 := n4_
                       have HO_102004 := n5_
                       have BK101 := n6_
                       have BK130 := n7_
                       have BK157 := n8_
                       have GW157 := n9_
                       have GE157 := n10_
                       have NB101_157 := n11_
                       have NB157_101 := n12_
                       have NB130_157 := n13_
                       have NB157_130 := n14_
                       have HB := n15_
                       clear n0_ n1_ n2_ n3_ n4_ n5_ n6_ n7_ n8_ n9_ n10_ n11_ n12_ n13_ n14_ n15_
                       have hHeld : w54.cell? ⟨gb130, 0, none⟩ = some (.int .i64 t122) ∧ w54.cell? ⟨gb130, 1, none⟩ = some (.int .i64 t123) ∧ w54.cell? ⟨gb130, 2, none⟩ = some (.int .i64 t124) ∧ w54.cell? ⟨gb130, 3, none⟩ = some (.int .i64 t125) ∧ w54.cell? ⟨gb130, 4, none⟩ = some (.int .i64 t126) ∧ w54.cell? ⟨gb130, 5, none⟩ = some (.int .i64 t127) ∧ w54.cell? ⟨gb130, 6, none⟩ = some (.int .i64 t128) := hS_
                       refine norm_ (a' := ?_) ?_ ?_
                       rotate_left
                       ·
                        simp only [putAll, Act.put, List.setIfInBounds_toArray, List.set_cons_zero, List.set_cons_succ]
                        rfl
                       refine one_ (i := 0) (N := some 52) (bm 14 2155) rfl rfl (one_of HT_.out (by kernel_rfl)) (by decide) (fun K hK => ?_)
                       refine Kd.R_lit_step (Kd.int .u8) _ 5 ?hg (N := 52) ?hd (xs := ([] : List Int)) (inner := []) (ok := fun _ => True) (okp := fun _ => True) ?hr ?hp (fun _ hk => hk) trivial (Below.refl _ _) (Nat.le_refl _) (by simp) ?_; (case hd => rfl); (case hg => rfl); (case hr => first | (go_simp; done) | (go_simp; rfl)); (case hp => exact (Reps.none _ _))
                       intro v133 w55 ho56 hb hg_ hnew_
                       clear hg_ hnew_
                       (first | rw [← Ny132.out] at ho56 | (simp only [Int.reduceToNat] at ho56; rw [← Ny132.out] at ho56))
                       have n0_ := krb HO_102000 hb
                       have n1_ := krb HO_102001 hb
                       have n2_ := krb HO_102002 hb
                       have n3_ := krb HO_102003 hb
                       have n4_ := krb HO_102004 hb
                       have n5_ := Aside0.mk (Kd.R_elder' (kr HO121) (Kd.R_base ho56) hb)
                       have n6_ := Aside0.mk (Kd.R_lower (Kd.R_new' ho56 (Kd.R_lt (kr HO121))) (below_size (Sq.kl3 HB GE101 GE130 GE157)))
                       have n7_ := kbb BK101 hb
                       have n8_ := kbb BK130 hb
                       have n9_ := kbb BK157 hb
                       have n10_ := Aside0.mk (below_step (Sq.kl3 HB GE101 GE130 GE157) hb)
                       clear HO_102000
                       clear HO_102001
                       clear HO_102002
                       clear HO_102003
                       clear HO_102004
                       clear HO121
                       clear BK101
                       clear BK130
                       clear BK157
                       clear HB
                       have HO_102000 := n0_
                       have HO_102001 := n1_
                       have HO_102002 := n2_
                       have HO_102003 := n3_
                       have HO_102004 := n4_
                       have HO121 := n5_
                       have HO134 := n6_
                       have BK101 := n7_
                       have BK130 := n8_
                       have BK157 := n9_
                       have HB := n10_
                       clear n0_ n1_ n2_ n3_ n4_ n5_ n6_ n7_ n8_ n9_ n10_
                       clear hb ho56
                       refine hK.out _ _ ⟨(blk_cell BK130.out 0).trans rfl, (blk_cell BK130.out 1).trans rfl, (blk_cell BK130.out 2).trans rfl, (blk_cell BK130.out 3).trans rfl, (blk_cell BK130.out 4).trans rfl, (blk_cell BK130.out 5).trans rfl, (blk_cell BK130.out 6).trans rfl⟩ (fun hHeld => ?_)
                       clear hK K
                       refine norm_ (a' := ?_) ?_ ?_
                       rotate_left
                       ·
                        show Act.put _ (some 52) _ = _
                        simp only [Act.put, List.setIfInBounds_toArray, List.set_cons_zero, List.set_cons_succ, i64_w, i32_w]
                        rfl
                       exact norm_ (by first | (simp only [putAll, Act.put, List.setIfInBounds_toArray, List.set_cons_zero, List.set_cons_succ]; done) | (simp only [putAll, Act.put, List.setIfInBounds_toArray, List.set_cons_zero, List.set_cons_succ]; rfl)) (hJ0_11 (v133, gb157) _ ⟨hHeld, (by (with_reducible repeat (first | apply Kd.R_alloc | apply Kd.R_drewN | apply Kd.R_drew)); exact Kd.R_mono HO121.out (fun _ hk => hk.2)), (by (with_reducible repeat (first | apply Kd.R_alloc | apply Kd.R_drewN | apply Kd.R_drew)); exact Kd.R_mono HO134.out (fun _ hk => hk.2)), (kr HO_102000), (kr HO_102001), (kr HO_102002), (kr HO_102003), (kr HO_102004), (kb BK101), (kb BK130), (kb BK157), GW157.out, GE157.out, NB101_157.out, NB157_101.out, NB130_157.out, NB157_130.out, (Sq.kl3 HB GE101 GE130 GE157)⟩)
                     ·
                      skip
                      rintro v133 w55 ⟨hS_, h0_, h1_, h2_, h3_, h4_, h5_, h6_, h7_, h8_, h9_⟩
                      have n0_ : Aside0 (Kd.R (Kd.int .u8) 5 w55 w.heap.size (fun k_ => some k_ ≠ (v133 : Value).ownBlock) (.slice Ao50 t119.length co50) t119) := ⟨h0_⟩
                      have n1_ : Aside0 (Kd.R (Kd.int .u8) 5 w55 w.heap.size (fun k_ => some k_ ≠ (.slice Ao50 t119.length co50 : Value).ownBlock) v133 y132) := ⟨h1_⟩
                      have n2_ : Aside0 (Kd.R k56 56 w55 w.heap.size (fun _ => True) (.slice Ao15 t103.length co15) t103) := ⟨h2_⟩
                      have n3_ : Aside0 (Kd.R k54 54 w55 w.heap.size (fun _ => True) (.slice Ao17 t106.length co17) t106) := ⟨h3_⟩
                      have n4_ : Aside0 (Kd.R k67 67 w55 w.heap.size (fun _ => True) (.slice Ao18 t109.length co18) t109) := ⟨h4_⟩
                      have n5_ : Aside0 (Kd.R Kd.bool 4 w55 w.heap.size (fun k_ => some k_ ≠ (.slice Ao20 t115.length co20 : Value).ownBlock) (.slice Ao19 t112.length co19) t112) := ⟨h5_⟩
                      have n6_ : Aside0 (Kd.R Kd.bool 4 w55 w.heap.size (fun k_ => some k_ ≠ (.slice Ao19 t112.length co19 : Value).ownBlock) (.slice Ao20 t115.length co20) t115) := ⟨h6_⟩
                      have n7_ : Aside0 (w55.heap[gb101]? = some (.cells #[.slice Ao15 t103.length co15, .slice Ao17 t106.length co17, .slice Ao18 t109.length co18, .slice Ao19 t112.length co19, .slice Ao20 t115.length co20] 27 (0, 0))) := ⟨h7_⟩
                      have n8_ : Aside0 (w55.heap[gb130]? = some (.cells #[.int .i64 t122, .int .i64 t123, .int .i64 t124, .int .i64 t125, .int .i64 t126, .int .i64 t127, .int .i64 t128] 35 (0, 0))) := ⟨h8_⟩
                      have n9_ : Aside0 (Below w.heap.size w w55) := ⟨h9_⟩
                      clear HO_102000
                      clear HO_102001
                      clear HO_102002
                      clear HO_102003
                      clear HO_102004
                      clear HO121
                      clear BK101
                      clear BK130
                      clear HB
                      clear h0_ h1_ h2_ h3_ h4_ h5_ h6_ h7_ h8_ h9_
                      have HO121 := n0_
                      have HO134 := n1_
                      have HO_102000 := n2_
                      have HO_102001 := n3_
                      have HO_102002 := n4_
                      have HO_102003 := n5_
                      have HO_102004 := n6_
                      have BK101 := n7_
                      have BK130 := n8_
                      have HB := n9_
                      clear n0_ n1_ n2_ n3_ n4_ n5_ n6_ n7_ n8_ n9_
                      have hHeld : w55.cell? ⟨gb130, 0, none⟩ = some (.int .i64 t122) ∧ w55.cell? ⟨gb130, 1, none⟩ = some (.int .i64 t123) ∧ w55.cell? ⟨gb130, 2, none⟩ = some (.int .i64 t124) ∧ w55.cell? ⟨gb130, 3, none⟩ = some (.int .i64 t125) ∧ w55.cell? ⟨gb130, 4, none⟩ = some (.int .i64 t126) ∧ w55.cell? ⟨gb130, 5, none⟩ = some (.int .i64 t127) ∧ w55.cell? ⟨gb130, 6, none⟩ = some (.int .i64 t128) := hS_
                      refine norm_ (a' := ?_) ?_ ?_
                      rotate_left
                      ·
                       simp only [putAll, Act.put, List.setIfInBounds_toArray, List.set_cons_zero, List.set_cons_succ]
                       rfl
                      refine two_ (i := 2) (j := 11) (Ni := some 54) (Nj := some 14) (bm 14 111) (bm 14 2155) rfl rfl rfl rfl (two_of HT_.out (by kernel_rfl)) (by decide) (by decide) (fun K hK => ?_) (fun K hK => ?_)
                      ·
                       skip
                       refine Kd.R_append_rows_step (Kd.int .u8) (w0 := w) w.heap.size (by rfl) (.tmp 52) (.tmp 53) 33 5 (.int .u8 0) 1 rfl Try.underlying33 info5 rfl (by decide) (by omega) v133 y132 t119 _ _ _ (fun k_ => some k_ ≠ (.slice Ao50 t119.length co50 : Value).ownBlock) (fun _ => False) rfl rfl ?aO ?aR (fun _ _ h => h) (fun _ h => h.elim) ?aF ?aB ?aS ?aL ?_
                       (case aR => repeat (first | exact (Kd.R_reads' HO121.out).2.2 | (with_reducible refine Kd.C_alloc ?_ _) | (with_reducible refine Kd.C_drewN ?_ _) | (with_reducible refine Kd.C_drew ?_)))
                       (case aB => exact (Sq.kl2 HB GE101 GE130))
                       (case aF => exact (fun k_ hk => Kd.fresh' (Kd.R_lt (kr HO121)) k_ hk))
                       (case aO => exact (kr HO134))
                       (case aS => exact (below_size (Sq.kl2 HB GE101 GE130)))
                       (case aL => have := LMc32.out; omega)
                       intro v136 w56 ho hb hg hat
                       rw [← Ny135.out] at ho
                       have n0_ := Aside0.mk (Kd.R_over' (kr HO_102000) (Kd.R_typed (kr HO134)) (by decide) hg)
                       have n1_ := Aside0.mk (Kd.R_over' (kr HO_102001) (Kd.R_typed (kr HO134)) (by decide) hg)
                       have n2_ := Aside0.mk (Kd.R_over' (kr HO_102002) (Kd.R_typed (kr HO134)) (by decide) hg)
                       have n3_ := Aside0.mk (Kd.R_over' (kr HO_102003) (Kd.R_typed (kr HO134)) (by decide) hg)
                       have n4_ := Aside0.mk (Kd.R_over' (kr HO_102004) (Kd.R_typed (kr HO134)) (by decide) hg)
                       have n5_ := Aside0.mk (blk_grown (g := gb101) (o := .cells #[.slice Ao15 t103.length co15, .slice Ao17 t106.length co17, .slice Ao18 t109.length co18, .slice Ao19 t112.length co19, .slice Ao20 t115.length co20] 27 (0, 0)) (kb BK101) hg (Kd.R_ne HO134.out BK101.out (by decide)))
                       have n6_ := Aside0.mk (Kd.R_after (ok := (fun _ => True)) (by (with_reducible repeat (first | apply Kd.R_alloc | apply Kd.R_drewN | apply Kd.R_drew)); exact Kd.R_mono HO121.out (fun _ hk => ⟨trivial, hk⟩)) hg hat)
                       have n7_ := Aside0.mk (blk_grown (g := gb130) (o := .cells #[.int .i64 t122, .int .i64 t123, .int .i64 t124, .int .i64 t125, .int .i64 t126, .int .i64 t127, .int .i64 t128] 35 (0, 0)) (kb BK130) hg (Kd.R_ne HO134.out BK130.out (by decide)))
                       have n8_ := Aside0.mk (hb)
                       have n9_ := Aside0.mk (ho)
                       clear HO_102000
                       clear HO_102001
                       clear HO_102002
                       clear HO_102003
                       clear HO_102004
                       clear BK101
                       clear HO121
                       clear BK130
                       clear HB
                       clear HO134
                       have HO_102000 := n0_
                       have HO_102001 := n1_
                       have HO_102002 := n2_
                       have HO_102003 := n3_
                       have HO_102004 := n4_
                       have BK101 := n5_
                       have HO121 := n6_
                       have BK130 := n7_
                       have HB := n8_
                       have HO137 := n9_
                       clear n0_ n1_ n2_ n3_ n4_ n5_ n6_ n7_ n8_ n9_
                       clear ho hb hg hat
                       refine hK.out _ _ ⟨(blk_cell BK130.out 0).trans rfl, (blk_cell BK130.out 1).trans rfl, (blk_cell BK130.out 2).trans rfl, (blk_cell BK130.out 3).trans rfl, (blk_cell BK130.out 4).trans rfl, (blk_cell BK130.out 5).trans rfl, (blk_cell BK130.out 6).trans rfl⟩ (fun hHeld => ?_)
                       clear hK K
                       refine norm_ (a' := ?_) ?_ ?_
                       rotate_left
                       ·
                        show Act.put _ (some 54) _ = _
                        simp only [Act.put, List.setIfInBounds_toArray, List.set_cons_zero, List.set_cons_succ, i64_w, i32_w]
                        rfl
                       exact norm_ (by first | (simp only [putAll, Act.put, List.setIfInBounds_toArray, List.set_cons_zero, List.set_cons_succ]; done) | (simp only [putAll, Act.put, List.setIfInBounds_toArray, List.set_cons_zero, List.set_cons_succ]; rfl)) (hJ0_2 (v133, v136) _ ⟨hHeld, (by (with_reducible repeat (first | apply Kd.R_alloc | apply Kd.R_drewN | apply Kd.R_drew)); exact Kd.R_mono HO121.out (fun _ hk => hk.2)), (kr HO137), (kr HO_102000), (kr HO_102001), (kr HO_102002), (kr HO_102003), (kr HO_102004), (kb BK101), (kb BK130), (Sq.kl2 HB GE101 GE130)⟩)
                      ·
                       skip
                       refine box_step ?hg (N := 14) ?hd (cs := #[.slice none 0 0, .slice none 0 0, .slice none 0 0, .slice none 0 0, .slice none 0 0]) (t := 27) ?hr ?_; (case hd => rfl); (case hg => rfl); (case hr => first | (go_simp; done) | (go_simp; rfl))
                       intro gb157 hg w56 hbox hb
                       have n0_ := krb HO_102000 hb
                       have n1_ := krb HO_102001 hb
                       have n2_ := krb HO_102002 hb
                       have n3_ := krb HO_102003 hb
                       have n4_ := krb HO_102004 hb
                       have n5_ := krb HO121 hb
                       have n6_ := krb HO134 hb
                       have n7_ := kbb BK101 hb
                       have n8_ := kbb BK130 hb
                       have n9_ := Aside0.mk (below_step (Sq.kl2 HB GE101 GE130) hb)
                       have n10_ := Aside0.mk (hbox)
                       have n11_ := Aside0.mk ((by rw [hg]; exact (below_size (Sq.kl2 HB GE101 GE130)) : w.heap.size ≤ gb157))
                       have n12_ := Aside0.mk ((by rw [hg]; exact (below_size (Sq.kl2 HB GE101 GE130)) : w.heap.size ≤ gb157))
                       have n13_ := Aside0.mk ((by rw [hg]; exact Nat.ne_of_lt (blk_lt (kb BK101)) : gb101 ≠ gb157))
                       have n14_ := Aside0.mk ((by rw [hg]; exact Nat.ne_of_gt (blk_lt (kb BK101)) : gb157 ≠ gb101))
                       have n15_ := Aside0.mk ((by rw [hg]; exact Nat.ne_of_lt (blk_lt (kb BK130)) : gb130 ≠ gb157))
                       have n16_ := Aside0.mk ((by rw [hg]; exact Nat.ne_of_gt (blk_lt (kb BK130)) : gb157 ≠ gb130))
                       clear HO_102000
                       clear HO_102001
                       clear HO_102002
                       clear HO_102003
                       clear HO_102004
                       clear HO121
                       clear HO134
                       clear BK101
                       clear BK130
                       clear HB
                       have HO_102000 := n0_
                       have HO_102001 := n1_
                       have HO_102002 := n2_
                       have HO_102003 := n3_
                       have HO_102004 := n4_
                       have HO121 := n5_
                       have HO134 := n6_
                       have BK101 := n7_
                       have BK130 := n8_
                       have HB := n9_
                       have BK157 := n10_
                       have GW157 := n11_
                       have GE157 := n12_
                       have NB101_157 := n13_
                       have NB157_101 := n14_
                       have NB130_157 := n15_
                       have NB157_130 := n16_
                       clear n0_ n1_ n2_ n3_ n4_ n5_ n6_ n7_ n8_ n9_ n10_ n11_ n12_ n13_ n14_ n15_ n16_
                       clear hb hbox hg
                       refine hK.out _ _ ⟨(blk_cell BK130.out 0).trans rfl, (blk_cell BK130.out 1).trans rfl, (blk_cell BK130.out 2).trans rfl, (blk_cell BK130.out 3).trans rfl, (blk_cell BK130.out 4).trans rfl, (blk_cell BK130.out 5).trans rfl, (blk_cell BK130.out 6).trans rfl⟩ (fun hHeld => ?_)
                       clear hK K
                       refine norm_ (a' := ?_) ?_ ?_
                       rotate_left
                       ·
                        show Act.put _ (some 14) _ = _
                        simp only [Act.put, List.setIfInBounds_toArray, List.set_cons_zero, List.set_cons_succ, i64_w, i32_w]
                        rfl
                       exact norm_ (by first | (simp only [putAll, Act.put, List.setIfInBounds_toArray, List.set_cons_zero, List.set_cons_succ]; done) | (simp only [putAll, Act.put, List.setIfInBounds_toArray, List.set_cons_zero, List.set_cons_succ]; rfl)) (hJ0_11 (v133, gb157) _ ⟨hHeld, (kr HO121), (kr HO134), (kr HO_102000), (kr HO_102001), (kr HO_102002), (kr HO_102003), (kr HO_102004), (kb BK101), (kb BK130), (kb BK157), GW157.out, GE157.out, NB101_157.out, NB157_101.out, NB130_157.out, NB157_130.out, (Sq.kl3 HB GE101 GE130 GE157)⟩)
                    ·
                     skip
                     rintro ⟨v133, gb157⟩ w56 ⟨hS_, h0_, h1_, h2_, h3_, h4_, h5_, h6_, h7_, h8_, h9_, h10_, h11_, h12_, h13_, h14_, h15_, h16_⟩
                     have n0_ : Aside0 (Kd.R (Kd.int .u8) 5 w56 w.heap.size (fun k_ => some k_ ≠ (v133 : Value).ownBlock) (.slice Ao50 t119.length co50) t119) := ⟨h0_⟩
                     have n1_ : Aside0 (Kd.R (Kd.int .u8) 5 w56 w.heap.size (fun k_ => some k_ ≠ (.slice Ao50 t119.length co50 : Value).ownBlock) v133 y132) := ⟨h1_⟩
                     have n2_ : Aside0 (Kd.R k56 56 w56 w.heap.size (fun _ => True) (.slice Ao15 t103.length co15) t103) := ⟨h2_⟩
                     have n3_ : Aside0 (Kd.R k54 54 w56 w.heap.size (fun _ => True) (.slice Ao17 t106.length co17) t106) := ⟨h3_⟩
                     have n4_ : Aside0 (Kd.R k67 67 w56 w.heap.size (fun _ => True) (.slice Ao18 t109.length co18) t109) := ⟨h4_⟩
                     have n5_ : Aside0 (Kd.R Kd.bool 4 w56 w.heap.size (fun k_ => some k_ ≠ (.slice Ao20 t115.length co20 : Value).ownBlock) (.slice Ao19 t112.length co19) t112) := ⟨h5_⟩
                     have n6_ : Aside0 (Kd.R Kd.bool 4 w56 w.heap.size (fun k_ => some k_ ≠ (.slice Ao19 t112.length co19 : Value).ownBlock) (.slice Ao20 t115.length co20) t115) := ⟨h6_⟩
                     have n7_ : Aside0 (w56.heap[gb101]? = some (.cells #[.slice Ao15 t103.length co15, .slice Ao17 t106.length co17, .slice Ao18 t109.length co18, .slice Ao19 t112.length co19, .slice Ao20 t115.length co20] 27 (0, 0))) := ⟨h7_⟩
                     have n8_ : Aside0 (w56.heap[gb130]? = some (.cells #[.int .i64 t122, .int .i64 t123, .int .i64 t124, .int .i64 t125, .int .i64 t126, .int .i64 t127, .int .i64 t128] 35 (0, 0))) := ⟨h8_⟩
                     have n9_ : Aside0 (w56.heap[gb157]? = some (.cells #[.slice none 0 0, .slice none 0 0, .slice none 0 0, .slice none 0 0, .slice none 0 0] 27 (0, 0))) := ⟨h9_⟩
                     have n10_ : Aside0 (w.heap.size ≤ gb157) := ⟨h10_⟩
                     have n11_ : Aside0 (w.heap.size ≤ gb157) := ⟨h11_⟩
                     have n12_ : Aside0 (gb101 ≠ gb157) := ⟨h12_⟩
                     have n13_ : Aside0 (gb157 ≠ gb101) := ⟨h13_⟩
                     have n14_ : Aside0 (gb130 ≠ gb157) := ⟨h14_⟩
                     have n15_ : Aside0 (gb157 ≠ gb130) := ⟨h15_⟩
                     have n16_ : Aside0 (Below w.heap.size w w56) := ⟨h16_⟩
                     clear HO_102000
                     clear HO_102001
                     clear HO_102002
                     clear HO_102003
                     clear HO_102004
                     clear HO121
                     clear BK101
                     clear BK130
                     clear HB
                     clear h0_ h1_ h2_ h3_ h4_ h5_ h6_ h7_ h8_ h9_ h10_ h11_ h12_ h13_ h14_ h15_ h16_
                     have HO121 := n0_
                     have HO134 := n1_
                     have HO_102000 := n2_
                     have HO_102001 := n3_
                     have HO_102002 := n4_
                     have HO_102003 := n5_
                     have HO_102004 := n6_
                     have BK101 := n7_
                     have BK130 := n8_
                     have BK157 := n9_
                     have GW157 := n10_
                     have GE157 := n11_
                     have NB101_157 := n12_
                     have NB157_101 := n13_
                     have NB130_157 := n14_
                     have NB157_130 := n15_
                     have HB := n16_
                     clear n0_ n1_ n2_ n3_ n4_ n5_ n6_ n7_ n8_ n9_ n10_ n11_ n12_ n13_ n14_ n15_ n16_
                     have hHeld : w56.cell? ⟨gb130, 0, none⟩ = some (.int .i64 t122) ∧ w56.cell? ⟨gb130, 1, none⟩ = some (.int .i64 t123) ∧ w56.cell? ⟨gb130, 2, none⟩ = some (.int .i64 t124) ∧ w56.cell? ⟨gb130, 3, none⟩ = some (.int .i64 t125) ∧ w56.cell? ⟨gb130, 4, none⟩ = some (.int .i64 t126) ∧ w56.cell? ⟨gb130, 5, none⟩ = some (.int .i64 t127) ∧ w56.cell? ⟨gb130, 6, none⟩ = some (.int .i64 t128) := hS_
                     refine norm_ (a' := ?_) ?_ ?_
                     rotate_left
                     ·
                      simp only [putAll, Act.put, List.setIfInBounds_toArray, List.set_cons_zero, List.set_cons_succ]
                      rfl
                     refine one_ (i := 2) (N := some 54) (bm 14 2159) rfl rfl (one_of HT_.out (by kernel_rfl)) (by decide) (fun K hK => ?_)
                     refine Kd.R_append_rows_step (Kd.int .u8) (w0 := w) w.heap.size (by rfl) (.tmp 52) (.tmp 53) 33 5 (.int .u8 0) 1 rfl Try.underlying33 info5 rfl (by decide) (by omega) v133 y132 t119 _ _ _ (fun k_ => some k_ ≠ (.slice Ao50 t119.length co50 : Value).ownBlock) (fun _ => False) rfl rfl ?aO ?aR (fun _ _ h => h) (fun _ h => h.elim) ?aF ?aB ?aS ?aL ?_
                     (case aR => repeat (first | exact (Kd.R_reads' HO121.out).2.2 | (with_reducible refine Kd.C_alloc ?_ _) | (with_reducible refine Kd.C_drewN ?_ _) | (with_reducible refine Kd.C_drew ?_)))
                     (case aB => exact (Sq.kl3 HB GE101 GE130 GE157))
                     (case aF => exact (fun k_ hk => Kd.fresh' (Kd.R_lt (kr HO121)) k_ hk))
                     (case aO => exact (kr HO134))
                     (case aS => exact (below_size (Sq.kl3 HB GE101 GE130 GE157)))
                     (case aL => have := LMc32.out; omega)
                     intro v136 w57 ho hb hg hat
                     rw [← Ny135.out] at ho
                     have n0_ := Aside0.mk (Kd.R_over' (kr HO_102000) (Kd.R_typed (kr HO134)) (by decide) hg)
                     have n1_ := Aside0.mk (Kd.R_over' (kr HO_102001) (Kd.R_typed (kr HO134)) (by decide) hg)
                     have n2_ := Aside0.mk (Kd.R_over' (kr HO_102002) (Kd.R_typed (kr HO134)) (by decide) hg)
                     have n3_ := Aside0.mk (Kd.R_over' (kr HO_102003) (Kd.R_typed (kr HO134)) (by decide) hg)
                     have n4_ := Aside0.mk (Kd.R_over' (kr HO_102004) (Kd.R_typed (kr HO134)) (by decide) hg)
                     have n5_ := Aside0.mk (blk_grown (g := gb101) (o := .cells #[.slice Ao15 t103.length co15, .slice Ao17 t106.length co17, .slice Ao18 t109.length co18, .slice Ao19 t112.length co19, .slice Ao20 t115.length co20] 27 (0, 0)) (kb BK101) hg (Kd.R_ne HO134.out BK101.out (by decide)))
                     have n6_ := Aside0.mk (Kd.R_after (ok := (fun _ => True)) (by (with_reducible repeat (first | apply Kd.R_alloc | apply Kd.R_drewN | apply Kd.R_drew)); exact Kd.R_mono HO121.out (fun _ hk => ⟨trivial, hk⟩)) hg hat)
                     have n7_ := Aside0.mk (blk_grown (g := gb130) (o := .cells #[.int .i64 t122, .int .i64 t123, .int .i64 t124, .int .i64 t125, .int .i64 t126, .int .i64 t127, .int .i64 t128] 35 (0, 0)) (kb BK130) hg (Kd.R_ne HO134.out BK130.out (by decide)))
                     have n8_ := Aside0.mk (blk_grown (g := gb157) (o := .cells #[.slice none 0 0, .slice none 0 0, .slice none 0 0, .slice none 0 0, .slice none 0 0] 27 (0, 0)) (kb BK157) hg (Kd.R_ne HO134.out BK157.out (by decide)))
                     have n9_ := Aside0.mk (hb)
                     have n10_ := Aside0.mk (ho)
                     clear HO_102000
                     clear HO_102001
                     clear HO_102002
                     clear HO_102003
                     clear HO_102004
                     clear BK101
                     clear HO121
                     clear BK130
                     clear BK157
                     clear HB
                     clear HO134
                     have HO_102000 := n0_
                     have HO_102001 := n1_
                     have HO_102002 := n2_
                     have HO_102003 := n3_
                     have HO_102004 := n4_
                     have BK101 := n5_
                     have HO121 := n6_
                     have BK130 := n7_
                     have BK157 := n8_
                     have HB := n9_
                     have HO137 := n10_
                     clear n0_ n1_ n2_ n3_ n4_ n5_ n6_ n7_ n8_ n9_ n10_
                     clear ho hb hg hat
                     refine hK.out _ _ ⟨(blk_cell BK130.out 0).trans rfl, (blk_cell BK130.out 1).trans rfl, (blk_cell BK130.out 2).trans rfl, (blk_cell BK130.out 3).trans rfl, (blk_cell BK130.out 4).trans rfl, (blk_cell BK130.out 5).trans rfl, (blk_cell BK130.out 6).trans rfl⟩ (fun hHeld => ?_)
                     clear hK K
                     refine norm_ (a' := ?_) ?_ ?_
                     rotate_left
                     ·
                      show Act.put _ (some 54) _ = _
                      simp only [Act.put, List.setIfInBounds_toArray, List.set_cons_zero, List.set_cons_succ, i64_w, i32_w]
                      rfl
                     exact norm_ (by first | (simp only [putAll, Act.put, List.setIfInBounds_toArray, List.set_cons_zero, List.set_cons_succ]; done) | (simp only [putAll, Act.put, List.setIfInBounds_toArray, List.set_cons_zero, List.set_cons_succ]; rfl)) (hJ0_2_11 (v133, v136, gb157) _ ⟨hHeld, (by (with_reducible repeat (first | apply Kd.R_alloc | apply Kd.R_drewN | apply Kd.R_drew)); exact Kd.R_mono HO121.out (fun _ hk => hk.2)), (kr HO137), (kr HO_102000), (kr HO_102001), (kr HO_102002), (kr HO_102003), (kr HO_102004), (kb BK101), (kb BK130), (kb BK157), GW157.out, GE157.out, NB101_157.out, NB157_101.out, NB130_157.out, NB157_130.out, (Sq.kl3 HB GE101 GE130 GE157)⟩)
                   ·
                    skip
                    rintro ⟨v133, v136⟩ w56 ⟨hS_, h0_, h1_, h2_, h3_, h4_, h5_, h6_, h7_, h8_, h9_⟩
                    have n0_ : Aside0 (Kd.R (Kd.int .u8) 5 w56 w.heap.size (fun k_ => some k_ ≠ (v136 : Value).ownBlock) (.slice Ao50 t119.length co50) t119) := ⟨h0_⟩
                    have n1_ : Aside0 (Kd.R (Kd.int .u8) 5 w56 w.heap.size (fun k_ => some k_ ≠ (.slice Ao50 t119.length co50 : Value).ownBlock) v136 y135) := ⟨h1_⟩
                    have n2_ : Aside0 (Kd.R k56 56 w56 w.heap.size (fun _ => True) (.slice Ao15 t103.length co15) t103) := ⟨h2_⟩
                    have n3_ : Aside0 (Kd.R k54 54 w56 w.heap.size (fun _ => True) (.slice Ao17 t106.length co17) t106) := ⟨h3_⟩
                    have n4_ : Aside0 (Kd.R k67 67 w56 w.heap.size (fun _ => True) (.slice Ao18 t109.length co18) t109) := ⟨h4_⟩
                    have n5_ : Aside0 (Kd.R Kd.bool 4 w56 w.heap.size (fun k_ => some k_ ≠ (.slice Ao20 t115.length co20 : Value).ownBlock) (.slice Ao19 t112.length co19) t112) := ⟨h5_⟩
                    have n6_ : Aside0 (Kd.R Kd.bool 4 w56 w.heap.size (fun k_ => some k_ ≠ (.slice Ao19 t112.length co19 : Value).ownBlock) (.slice Ao20 t115.length co20) t115) := ⟨h6_⟩
                    have n7_ : Aside0 (w56.heap[gb101]? = some (.cells #[.slice Ao15 t103.length co15, .slice Ao17 t106.length co17, .slice Ao18 t109.length co18, .slice Ao19 t112.length co19, .slice Ao20 t115.length co20] 27 (0, 0))) := ⟨h7_⟩
                    have n8_ : Aside0 (w56.heap[gb130]? = some (.cells #[.int .i64 t122, .int .i64 t123, .int .i64 t124, .int .i64 t125, .int .i64 t126, .int .i64 t127, .int .i64 t128] 35 (0, 0))) := ⟨h8_⟩
                    have n9_ : Aside0 (Below w.heap.size w w56) := ⟨h9_⟩
                    clear HO_102000
                    clear HO_102001
                    clear HO_102002
                    clear HO_102003
                    clear HO_102004
                    clear HO121
                    clear BK101
                    clear BK130
                    clear HB
                    clear h0_ h1_ h2_ h3_ h4_ h5_ h6_ h7_ h8_ h9_
                    have HO121 := n0_
                    have HO137 := n1_
                    have HO_102000 := n2_
                    have HO_102001 := n3_
                    have HO_102002 := n4_
                    have HO_102003 := n5_
                    have HO_102004 := n6_
                    have BK101 := n7_
                    have BK130 := n8_
                    have HB := n9_
                    clear n0_ n1_ n2_ n3_ n4_ n5_ n6_ n7_ n8_ n9_
                    have hHeld : w56.cell? ⟨gb130, 0, none⟩ = some (.int .i64 t122) ∧ w56.cell? ⟨gb130, 1, none⟩ = some (.int .i64 t123) ∧ w56.cell? ⟨gb130, 2, none⟩ = some (.int .i64 t124) ∧ w56.cell? ⟨gb130, 3, none⟩ = some (.int .i64 t125) ∧ w56.cell? ⟨gb130, 4, none⟩ = some (.int .i64 t126) ∧ w56.cell? ⟨gb130, 5, none⟩ = some (.int .i64 t127) ∧ w56.cell? ⟨gb130, 6, none⟩ = some (.int .i64 t128) := hS_
                    refine norm_ (a' := ?_) ?_ ?_
                    rotate_left
                    ·
                     simp only [putAll, Act.put, List.setIfInBounds_toArray, List.set_cons_zero, List.set_cons_succ]
                     rfl
                    refine two_ (i := 4) (j := 11) (Ni := some 56) (Nj := some 14) (bm 14 127) (bm 14 2159) rfl rfl rfl rfl (two_of HT_.out (by kernel_rfl)) (by decide) (by decide) (fun K hK => ?_) (fun K hK => ?_)
                    ·
                     skip
                     refine Kd.R_append_rows_step (Kd.int .u8) (w0 := w) w.heap.size (by rfl) (.tmp 54) (.tmp 55) 33 5 (.int .u8 0) 1 rfl Try.underlying33 info5 rfl (by decide) (by omega) v136 y135 (l3.take ((ji7) : Int).toNat) _ _ _ (fun k_ => some k_ ≠ (.slice Ao50 t119.length co50 : Value).ownBlock) (fun _ => False) rfl rfl ?aO ?aR (fun _ _ h => h) (fun _ h => h.elim) ?aF ?aB ?aS ?aL ?_
                     (case aR => first | (refine readsLen (show (l3.take ((ji7) : Int).toNat).length = (ji7).toNat from (by rw [List.length_take]; first | (have h_ : ((ji7) : Int) ≤ (l3.length : Int) := of_decide_eq_true (by first | (with_reducible assumption) | assumption); omega) | (have h_ := hji7_; (repeat' split at h_) <;> omega))) ?_; repeat (first | exact (Kd.C_below HR118.out HB.out) | (with_reducible refine Kd.C_alloc ?_ _) | (with_reducible refine Kd.C_drewN ?_ _) | (with_reducible refine Kd.C_drew ?_))) | (repeat (first | exact (Kd.C_below HR118.out HB.out) | (with_reducible refine Kd.C_alloc ?_ _) | (with_reducible refine Kd.C_drewN ?_ _) | (with_reducible refine Kd.C_drew ?_))))
                     (case aB => exact (Sq.kl2 HB GE101 GE130))
                     (case aF => exact (fun k_ hk => Kd.fresh' (Kd.R_lt (kr HO121)) k_ hk))
                     (case aO => exact (kr HO137))
                     (case aS => exact (below_size (Sq.kl2 HB GE101 GE130)))
                     (case aL => have := LMc33.out; have hlx_ := (show (l3.take ((ji7) : Int).toNat).length = (ji7).toNat from (by rw [List.length_take]; first | (have h_ : ((ji7) : Int) ≤ (l3.length : Int) := of_decide_eq_true (by first | (with_reducible assumption) | assumption); omega) | (have h_ := hji7_; (repeat' split at h_) <;> omega))); omega)
                     intro v139 w57 ho hb hg hat
                     rw [← Ny138.out] at ho
                     have n0_ := Aside0.mk (Kd.R_over' (kr HO_102000) (Kd.R_typed (kr HO137)) (by decide) hg)
                     have n1_ := Aside0.mk (Kd.R_over' (kr HO_102001) (Kd.R_typed (kr HO137)) (by decide) hg)
                     have n2_ := Aside0.mk (Kd.R_over' (kr HO_102002) (Kd.R_typed (kr HO137)) (by decide) hg)
                     have n3_ := Aside0.mk (Kd.R_over' (kr HO_102003) (Kd.R_typed (kr HO137)) (by decide) hg)
                     have n4_ := Aside0.mk (Kd.R_over' (kr HO_102004) (Kd.R_typed (kr HO137)) (by decide) hg)
                     have n5_ := Aside0.mk (blk_grown (g := gb101) (o := .cells #[.slice Ao15 t103.length co15, .slice Ao17 t106.length co17, .slice Ao18 t109.length co18, .slice Ao19 t112.length co19, .slice Ao20 t115.length co20] 27 (0, 0)) (kb BK101) hg (Kd.R_ne HO137.out BK101.out (by decide)))
                     have n6_ := Aside0.mk (Kd.R_after (ok := (fun _ => True)) (by (with_reducible repeat (first | apply Kd.R_alloc | apply Kd.R_drewN | apply Kd.R_drew)); exact Kd.R_mono HO121.out (fun _ hk => ⟨trivial, hk⟩)) hg hat)
                     have n7_ := Aside0.mk (blk_grown (g := gb130) (o := .cells #[.int .i64 t122, .int .i64 t123, .int .i64 t124, .int .i64 t125, .int .i64 t126, .int .i64 t127, .int .i64 t128] 35 (0, 0)) (kb BK130) hg (Kd.R_ne HO137.out BK130.out (by decide)))
                     have n8_ := Aside0.mk (hb)
                     have n9_ := Aside0.mk (ho)
                     clear HO_102000
                     clear HO_102001
                     clear HO_102002
                     clear HO_102003
                     clear HO_102004
                     clear BK101
                     clear HO121
                     clear BK130
                     clear HB
                     clear HO137
                     have HO_102000 := n0_
                     have HO_102001 := n1_
                     have HO_102002 := n2_
                     have HO_102003 := n3_
                     have HO_102004 := n4_
                     have BK101 := n5_
                     have HO121 := n6_
                     have BK130 := n7_
                     have HB := n8_
                     have HO140 := n9_
                     clear n0_ n1_ n2_ n3_ n4_ n5_ n6_ n7_ n8_ n9_
                     clear ho hb hg hat
                     refine hK.out _ _ ⟨(blk_cell BK130.out 0).trans rfl, (blk_cell BK130.out 1).trans rfl, (blk_cell BK130.out 2).trans rfl, (blk_cell BK130.out 3).trans rfl, (blk_cell BK130.out 4).trans rfl, (blk_cell BK130.out 5).trans rfl, (blk_cell BK130.out 6).trans rfl⟩ (fun hHeld => ?_)
                     clear hK K
                     refine norm_ (a' := ?_) ?_ ?_
                     rotate_left
                     ·
                      show Act.put _ (some 56) _ = _
                      simp only [Act.put, List.setIfInBounds_toArray, List.set_cons_zero, List.set_cons_succ, i64_w, i32_w]
                      rfl
                     exact norm_ (by first | (simp only [putAll, Act.put, List.setIfInBounds_toArray, List.set_cons_zero, List.set_cons_succ]; done) | (simp only [putAll, Act.put, List.setIfInBounds_toArray, List.set_cons_zero, List.set_cons_succ]; rfl)) (hJ0_2_4 (v133, v136, v139) _ ⟨hHeld, (by (with_reducible repeat (first | apply Kd.R_alloc | apply Kd.R_drewN | apply Kd.R_drew)); exact Kd.R_mono HO121.out (fun _ hk => hk.2)), (kr HO140), (kr HO_102000), (kr HO_102001), (kr HO_102002), (kr HO_102003), (kr HO_102004), (kb BK101), (kb BK130), (Sq.kl2 HB GE101 GE130)⟩)
                    ·
                     skip
                     refine box_step ?hg (N := 14) ?hd (cs := #[.slice none 0 0, .slice none 0 0, .slice none 0 0, .slice none 0 0, .slice none 0 0]) (t := 27) ?hr ?_; (case hd => rfl); (case hg => rfl); (case hr => first | (go_simp; done) | (go_simp; rfl))
                     intro gb157 hg w57 hbox hb
                     have n0_ := krb HO_102000 hb
                     have n1_ := krb HO_102001 hb
                     have n2_ := krb HO_102002 hb
                     have n3_ := krb HO_102003 hb
                     have n4_ := krb HO_102004 hb
                     have n5_ := krb HO121 hb
                     have n6_ := krb HO137 hb
                     have n7_ := kbb BK101 hb
                     have n8_ := kbb BK130 hb
                     have n9_ := Aside0.mk (below_step (Sq.kl2 HB GE101 GE130) hb)
                     have n10_ := Aside0.mk (hbox)
                     have n11_ := Aside0.mk ((by rw [hg]; exact (below_size (Sq.kl2 HB GE101 GE130)) : w.heap.size ≤ gb157))
                     have n12_ := Aside0.mk ((by rw [hg]; exact (below_size (Sq.kl2 HB GE101 GE130)) : w.heap.size ≤ gb157))
                     have n13_ := Aside0.mk ((by rw [hg]; exact Nat.ne_of_lt (blk_lt (kb BK101)) : gb101 ≠ gb157))
                     have n14_ := Aside0.mk ((by rw [hg]; exact Nat.ne_of_gt (blk_lt (kb BK101)) : gb157 ≠ gb101))
                     have n15_ := Aside0.mk ((by rw [hg]; exact Nat.ne_of_lt (blk_lt (kb BK130)) : gb130 ≠ gb157))
                     have n16_ := Aside0.mk ((by rw [hg]; exact Nat.ne_of_gt (blk_lt (kb BK130)) : gb157 ≠ gb130))
                     clear HO_102000
                     clear HO_102001
                     clear HO_102002
                     clear HO_102003
                     clear HO_102004
                     clear HO121
                     clear HO137
                     clear BK101
                     clear BK130
                     clear HB
                     have HO_102000 := n0_
                     have HO_102001 := n1_
                     have HO_102002 := n2_
                     have HO_102003 := n3_
                     have HO_102004 := n4_
                     have HO121 := n5_
                     have HO137 := n6_
                     have BK101 := n7_
                     have BK130 := n8_
                     have HB := n9_
                     have BK157 := n10_
                     have GW157 := n11_
                     have GE157 := n12_
                     have NB101_157 := n13_
                     have NB157_101 := n14_
                     have NB130_157 := n15_
                     have NB157_130 := n16_
                     clear n0_ n1_ n2_ n3_ n4_ n5_ n6_ n7_ n8_ n9_ n10_ n11_ n12_ n13_ n14_ n15_ n16_
                     clear hb hbox hg
                     refine hK.out _ _ ⟨(blk_cell BK130.out 0).trans rfl, (blk_cell BK130.out 1).trans rfl, (blk_cell BK130.out 2).trans rfl, (blk_cell BK130.out 3).trans rfl, (blk_cell BK130.out 4).trans rfl, (blk_cell BK130.out 5).trans rfl, (blk_cell BK130.out 6).trans rfl⟩ (fun hHeld => ?_)
                     clear hK K
                     refine norm_ (a' := ?_) ?_ ?_
                     rotate_left
                     ·
                      show Act.put _ (some 14) _ = _
                      simp only [Act.put, List.setIfInBounds_toArray, List.set_cons_zero, List.set_cons_succ, i64_w, i32_w]
                      rfl
                     exact norm_ (by first | (simp only [putAll, Act.put, List.setIfInBounds_toArray, List.set_cons_zero, List.set_cons_succ]; done) | (simp only [putAll, Act.put, List.setIfInBounds_toArray, List.set_cons_zero, List.set_cons_succ]; rfl)) (hJ0_2_11 (v133, v136, gb157) _ ⟨hHeld, (kr HO121), (kr HO137), (kr HO_102000), (kr HO_102001), (kr HO_102002), (kr HO_102003), (kr HO_102004), (kb BK101), (kb BK130), (kb BK157), GW157.out, GE157.out, NB101_157.out, NB157_101.out, NB130_157.out, NB157_130.out, (Sq.kl3 HB GE101 GE130 GE157)⟩)
                  ·
                   skip
                   rintro ⟨v133, v136, gb157⟩ w57 ⟨hS_, h0_, h1_, h2_, h3_, h4_, h5_, h6_, h7_, h8_, h9_, h10_, h11_, h12_, h13_, h14_, h15_, h16_⟩
                   have n0_ : Aside0 (Kd.R (Kd.int .u8) 5 w57 w.heap.size (fun k_ => some k_ ≠ (v136 : Value).ownBlock) (.slice Ao50 t119.length co50) t119) := ⟨h0_⟩
                   have n1_ : Aside0 (Kd.R (Kd.int .u8) 5 w57 w.heap.size (fun k_ => some k_ ≠ (.slice Ao50 t119.length co50 : Value).ownBlock) v136 y135) := ⟨h1_⟩
                   have n2_ : Aside0 (Kd.R k56 56 w57 w.heap.size (fun _ => True) (.slice Ao15 t103.length co15) t103) := ⟨h2_⟩
                   have n3_ : Aside0 (Kd.R k54 54 w57 w.heap.size (fun _ => True) (.slice Ao17 t106.length co17) t106) := ⟨h3_⟩
                   have n4_ : Aside0 (Kd.R k67 67 w57 w.heap.size (fun _ => True) (.slice Ao18 t109.length co18) t109) := ⟨h4_⟩
                   have n5_ : Aside0 (Kd.R Kd.bool 4 w57 w.heap.size (fun k_ => some k_ ≠ (.slice Ao20 t115.length co20 : Value).ownBlock) (.slice Ao19 t112.length co19) t112) := ⟨h5_⟩
                   have n6_ : Aside0 (Kd.R Kd.bool 4 w57 w.heap.size (fun k_ => some k_ ≠ (.slice Ao19 t112.length co19 : Value).ownBlock) (.slice Ao20 t115.length co20) t115) := ⟨h6_⟩
                   have n7_ : Aside0 (w57.heap[gb101]? = some (.cells #[.slice Ao15 t103.length co15, .slice Ao17 t106.length co17, .slice Ao18 t109.length co18, .slice Ao19 t112.length co19, .slice Ao20 t115.length co20] 27 (0, 0))) := ⟨h7_⟩
                   have n8_ : Aside0 (w57.heap[gb130]? = some (.cells #[.int .i64 t122, .int .i64 t123, .int .i64 t124, .int .i64 t125, .int .i64 t126, .int .i64 t127, .int .i64 t128] 35 (0, 0))) := ⟨h8_⟩
                   have n9_ : Aside0 (w57.heap[gb157]? = some (.cells #[.slice none 0 0, .slice none 0 0, .slice none 0 0, .slice none 0 0, .slice none 0 0] 27 (0, 0))) := ⟨h9_⟩
                   have n10_ : Aside0 (w.heap.size ≤ gb157) := ⟨h10_⟩
                   have n11_ : Aside0 (w.heap.size ≤ gb157) := ⟨h11_⟩
                   have n12_ : Aside0 (gb101 ≠ gb157) := ⟨h12_⟩
                   have n13_ : Aside0 (gb157 ≠ gb101) := ⟨h13_⟩
                   have n14_ : Aside0 (gb130 ≠ gb157) := ⟨h14_⟩
                   have n15_ : Aside0 (gb157 ≠ gb130) := ⟨h15_⟩
                   have n16_ : Aside0 (Below w.heap.size w w57) := ⟨h16_⟩
                   clear HO_102000
                   clear HO_102001
                   clear HO_102002
                   clear HO_102003
                   clear HO_102004
                   clear HO121
                   clear BK101
                   clear BK130
                   clear HB
                   clear h0_ h1_ h2_ h3_ h4_ h5_ h6_ h7_ h8_ h9_ h10_ h11_ h12_ h13_ h14_ h15_ h16_
                   have HO121 := n0_
                   have HO137 := n1_
                   have HO_102000 := n2_
                   have HO_102001 := n3_
                   have HO_102002 := n4_
                   have HO_102003 := n5_
                   have HO_102004 := n6_
                   have BK101 := n7_
                   have BK130 := n8_
                   have BK157 := n9_
                   have GW157 := n10_
                   have GE157 := n11_
                   have NB101_157 := n12_
                   have NB157_101 := n13_
                   have NB130_157 := n14_
                   have NB157_130 := n15_
                   have HB := n16_
                   clear n0_ n1_ n2_ n3_ n4_ n5_ n6_ n7_ n8_ n9_ n10_ n11_ n12_ n13_ n14_ n15_ n16_
                   have hHeld : w57.cell? ⟨gb130, 0, none⟩ = some (.int .i64 t122) ∧ w57.cell? ⟨gb130, 1, none⟩ = some (.int .i64 t123) ∧ w57.cell? ⟨gb130, 2, none⟩ = some (.int .i64 t124) ∧ w57.cell? ⟨gb130, 3, none⟩ = some (.int .i64 t125) ∧ w57.cell? ⟨gb130, 4, none⟩ = some (.int .i64 t126) ∧ w57.cell? ⟨gb130, 5, none⟩ = some (.int .i64 t127) ∧ w57.cell? ⟨gb130, 6, none⟩ = some (.int .i64 t128) := hS_
                   refine norm_ (a' := ?_) ?_ ?_
                   rotate_left
                   ·
                    simp only [putAll, Act.put, List.setIfInBounds_toArray, List.set_cons_zero, List.set_cons_succ]
                    rfl
                   refine one_ (i := 4) (N := some 56) (bm 14 2175) rfl rfl (one_of HT_.out (by kernel_rfl)) (by decide) (fun K hK => ?_)
                   refine Kd.R_append_rows_step (Kd.int .u8) (w0 := w) w.heap.size (by rfl) (.tmp 54) (.tmp 55) 33 5 (.int .u8 0) 1 rfl Try.underlying33 info5 rfl (by decide) (by omega) v136 y135 (l3.take ((ji7) : Int).toNat) _ _ _ (fun k_ => some k_ ≠ (.slice Ao50 t119.length co50 : Value).ownBlock) (fun _ => False) rfl rfl ?aO ?aR (fun _ _ h => h) (fun _ h => h.elim) ?aF ?aB ?aS ?aL ?_
                   (case aR => first | (refine readsLen (show (l3.take ((ji7) : Int).toNat).length = (ji7).toNat from (by rw [List.length_take]; first | (have h_ : ((ji7) : Int) ≤ (l3.length : Int) := of_decide_eq_true (by first | (with_reducible assumption) | assumption); omega) | (have h_ := hji7_; (repeat' split at h_) <;> omega))) ?_; repeat (first | exact (Kd.C_below HR118.out HB.out) | (with_reducible refine Kd.C_alloc ?_ _) | (with_reducible refine Kd.C_drewN ?_ _) | (with_reducible refine Kd.C_drew ?_))) | (repeat (first | exact (Kd.C_below HR118.out HB.out) | (with_reducible refine Kd.C_alloc ?_ _) | (with_reducible refine Kd.C_drewN ?_ _) | (with_reducible refine Kd.C_drew ?_))))
                   (case aB => exact (Sq.kl3 HB GE101 GE130 GE157))
                   (case aF => exact (fun k_ hk => Kd.fresh' (Kd.R_lt (kr HO121)) k_ hk))
                   (case aO => exact (kr HO137))
                   (case aS => exact (below_size (Sq.kl3 HB GE101 GE130 GE157)))
                   (case aL => have := LMc33.out; have hlx_ := (show (l3.take ((ji7) : Int).toNat).length = (ji7).toNat from (by rw [List.length_take]; first | (have h_ : ((ji7) : Int) ≤ (l3.length : Int) := of_decide_eq_true (by first | (with_reducible assumption) | assumption); omega) | (have h_ := hji7_; (repeat' split at h_) <;> omega))); omega)
                   intro v139 w58 ho hb hg hat
                   rw [← Ny138.out] at ho
                   have n0_ := Aside0.mk (Kd.R_over' (kr HO_102000) (Kd.R_typed (kr HO137)) (by decide) hg)
                   have n1_ := Aside0.mk (Kd.R_over' (kr HO_102001) (Kd.R_typed (kr HO137)) (by decide) hg)
                   have n2_ := Aside0.mk (Kd.R_over' (kr HO_102002) (Kd.R_typed (kr HO137)) (by decide) hg)
                   have n3_ := Aside0.mk (Kd.R_over' (kr HO_102003) (Kd.R_typed (kr HO137)) (by decide) hg)
                   have n4_ := Aside0.mk (Kd.R_over' (kr HO_102004) (Kd.R_typed (kr HO137)) (by decide) hg)
                   have n5_ := Aside0.mk (blk_grown (g := gb101) (o := .cells #[.slice Ao15 t103.length co15, .slice Ao17 t106.length co17, .slice Ao18 t109.length co18, .slice Ao19 t112.length co19, .slice Ao20 t115.length co20] 27 (0, 0)) (kb BK101) hg (Kd.R_ne HO137.out BK101.out (by decide)))
                   have n6_ := Aside0.mk (Kd.R_after (ok := (fun _ => True)) (by (with_reducible repeat (first | apply Kd.R_alloc | apply Kd.R_drewN | apply Kd.R_drew)); exact Kd.R_mono HO121.out (fun _ hk => ⟨trivial, hk⟩)) hg hat)
                   have n7_ := Aside0.mk (blk_grown (g := gb130) (o := .cells #[.int .i64 t122, .int .i64 t123, .int .i64 t124, .int .i64 t125, .int .i64 t126, .int .i64 t127, .int .i64 t128] 35 (0, 0)) (kb BK130) hg (Kd.R_ne HO137.out BK130.out (by decide)))
                   have n8_ := Aside0.mk (blk_grown (g := gb157) (o := .cells #[.slice none 0 0, .slice none 0 0, .slice none 0 0, .slice none 0 0, .slice none 0 0] 27 (0, 0)) (kb BK157) hg (Kd.R_ne HO137.out BK157.out (by decide)))
                   have n9_ := Aside0.mk (hb)
                   have n10_ := Aside0.mk (ho)
                   clear HO_102000
                   clear HO_102001
                   clear HO_102002
                   clear HO_102003
                   clear HO_102004
                   clear BK101
                   clear HO121
                   clear BK130
                   clear BK157
                   clear HB
                   clear HO137
                   have HO_102000 := n0_
                   have HO_102001 := n1_
                   have HO_102002 := n2_
                   have HO_102003 := n3_
                   have HO_102004 := n4_
                   have BK101 := n5_
                   have HO121 := n6_
                   have BK130 := n7_
                   have BK157 := n8_
                   have HB := n9_
                   have HO140 := n10_
                   clear n0_ n1_ n2_ n3_ n4_ n5_ n6_ n7_ n8_ n9_ n10_
                   clear ho hb hg hat
                   refine hK.out _ _ ⟨(blk_cell BK130.out 0).trans rfl, (blk_cell BK130.out 1).trans rfl, (blk_cell BK130.out 2).trans rfl, (blk_cell BK130.out 3).trans rfl, (blk_cell BK130.out 4).trans rfl, (blk_cell BK130.out 5).trans rfl, (blk_cell BK130.out 6).trans rfl⟩ (fun hHeld => ?_)
                   clear hK K
                   refine norm_ (a' := ?_) ?_ ?_
                   rotate_left
                   ·
                    show Act.put _ (some 56) _ = _
                    simp only [Act.put, List.setIfInBounds_toArray, List.set_cons_zero, List.set_cons_succ, i64_w, i32_w]
                    rfl
                   exact norm_ (by first | (simp only [putAll, Act.put, List.setIfInBounds_toArray, List.set_cons_zero, List.set_cons_succ]; done) | (simp only [putAll, Act.put, List.setIfInBounds_toArray, List.set_cons_zero, List.set_cons_succ]; rfl)) (hJ0_2_4_11 (v133, v136, v139, gb157) _ ⟨hHeld, (by (with_reducible repeat (first | apply Kd.R_alloc | apply Kd.R_drewN | apply Kd.R_drew)); exact Kd.R_mono HO121.out (fun _ hk => hk.2)), (kr HO140), (kr HO_102000), (kr HO_102001), (kr HO_102002), (kr HO_102003), (kr HO_102004), (kb BK101), (kb BK130), (kb BK157), GW157.out, GE157.out, NB101_157.out, NB157_101.out, NB130_157.out, NB157_130.out, (Sq.kl3 HB GE101 GE130 GE157)⟩)
                 ·
                  skip
                  rintro ⟨v133, v136, v139⟩ w57 ⟨hS_, h0_, h1_, h2_, h3_, h4_, h5_, h6_, h7_, h8_, h9_⟩
                  have n0_ : Aside0 (Kd.R (Kd.int .u8) 5 w57 w.heap.size (fun k_ => some k_ ≠ (v139 : Value).ownBlock) (.slice Ao50 t119.length co50) t119) := ⟨h0_⟩
                  have n1_ : Aside0 (Kd.R (Kd.int .u8) 5 w57 w.heap.size (fun k_ => some k_ ≠ (.slice Ao50 t119.length co50 : Value).ownBlock) v139 y138) := ⟨h1_⟩
                  have n2_ : Aside0 (Kd.R k56 56 w57 w.heap.size (fun _ => True) (.slice Ao15 t103.length co15) t103) := ⟨h2_⟩
                  have n3_ : Aside0 (Kd.R k54 54 w57 w.heap.size (fun _ => True) (.slice Ao17 t106.length co17) t106) := ⟨h3_⟩
                  have n4_ : Aside0 (Kd.R k67 67 w57 w.heap.size (fun _ => True) (.slice Ao18 t109.length co18) t109) := ⟨h4_⟩
                  have n5_ : Aside0 (Kd.R Kd.bool 4 w57 w.heap.size (fun k_ => some k_ ≠ (.slice Ao20 t115.length co20 : Value).ownBlock) (.slice Ao19 t112.length co19) t112) := ⟨h5_⟩
                  have n6_ : Aside0 (Kd.R Kd.bool 4 w57 w.heap.size (fun k_ => some k_ ≠ (.slice Ao19 t112.length co19 : Value).ownBlock) (.slice Ao20 t115.length co20) t115) := ⟨h6_⟩
                  have n7_ : Aside0 (w57.heap[gb101]? = some (.cells #[.slice Ao15 t103.length co15, .slice Ao17 t106.length co17, .slice Ao18 t109.length co18, .slice Ao19 t112.length co19, .slice Ao20 t115.length co20] 27 (0, 0))) := ⟨h7_⟩
                  have n8_ : Aside0 (w57.heap[gb130]? = some (.cells #[.int .i64 t122, .int .i64 t123, .int .i64 t124, .int .i64 t125, .int .i64 t126, .int .i64 t127, .int .i64 t128] 35 (0, 0))) := ⟨h8_⟩
                  have n9_ : Aside0 (Below w.heap.size w w57) := ⟨h9_⟩
                  clear HO_102000
                  clear HO_102001
                  clear HO_102002
                  clear HO_102003
                  clear HO_102004
                  clear HO121
                  clear BK101
                  clear BK130
                  clear HB
                  clear h0_ h1_ h2_ h3_ h4_ h5_ h6_ h7_ h8_ h9_
                  have HO121 := n0_
                  have HO140 := n1_
                  have HO_102000 := n2_
                  have HO_102001 := n3_
                  have HO_102002 := n4_
                  have HO_102003 := n5_
                  have HO_102004 := n6_
                  have BK101 := n7_
                  have BK130 := n8_
                  have HB := n9_
                  clear n0_ n1_ n2_ n3_ n4_ n5_ n6_ n7_ n8_ n9_
                  have hHeld : w57.cell? ⟨gb130, 0, none⟩ = some (.int .i64 t122) ∧ w57.cell? ⟨gb130, 1, none⟩ = some (.int .i64 t123) ∧ w57.cell? ⟨gb130, 2, none⟩ = some (.int .i64 t124) ∧ w57.cell? ⟨gb130, 3, none⟩ = some (.int .i64 t125) ∧ w57.cell? ⟨gb130, 4, none⟩ = some (.int .i64 t126) ∧ w57.cell? ⟨gb130, 5, none⟩ = some (.int .i64 t127) ∧ w57.cell? ⟨gb130, 6, none⟩ = some (.int .i64 t128) := hS_
                  obtain ⟨Ao58, co58, eo58⟩ := Kd.R_slice HO140.out
                  (first | subst eo58 | (injection eo58 with f1_ f2_ f3_; have f4_ := f1_.symm; have f5_ := f3_.symm; clear f1_ f2_ f3_; subst f4_; subst f5_))
                  refine norm_ (a' := ?_) ?_ ?_
                  rotate_left
                  ·
                   simp only [putAll, Act.put, List.setIfInBounds_toArray, List.set_cons_zero, List.set_cons_succ]
                   rfl
                  refine two_ (i := 7) (j := 11) (Ni := some 59) (Nj := some 14) (bm 14 255) (bm 14 2175) rfl rfl rfl rfl (two_of HT_.out (by kernel_rfl)) (by decide) (by decide) (fun K hK => ?_) (fun K hK => ?_)
                  ·
                   skip
                   refine goes_ Try.func21 (by kernel_rfl) rfl #[.slice Ao58 y138.length co58, .agg #[.int .i64 t122, .int .i64 t123, .int .i64 t124, .int .i64 t125, .int .i64 t126, .int .i64 t127, .int .i64 t128], .int .i64 x10_9] (by rfl) rfl rfl (by (try simp only [List.map_toArray, List.map_cons, List.map_nil]); first | done | rfl | (simp only [List.length_drop, List.length_take]; rfl)) ?_
                   with_reducible refine (block_Decode.calls _ _ y138 t122 t123 t124 t125 t126 t127 t128 x10_9 t141 t144 t147 t150 t153 t156 _ ?side1 ?side2 A34.out).mono ?_
                   (case side1 => exact Sq.qc HO140)
                   (case side2 => exact Sq.ql HO140)
                   rintro e w59 ⟨v142, v145, v148, v151, v154, rfl, ho0, ho1, ho2, ho3, ho4, hb⟩
                   refine ⟨_, rfl, ?_⟩
                   have n0_ := Aside0.mk (Kd.R_elder' (kr HO_102000) (Kd.R_base ho0) hb)
                   have n1_ := Aside0.mk (Kd.R_elder' (kr HO_102001) (Kd.R_base ho1) hb)
                   have n2_ := Aside0.mk (Kd.R_elder' (kr HO_102002) (Kd.R_base ho2) hb)
                   have n3_ := Aside0.mk (Kd.R_mono (Kd.R_told (Kd.R_told (Kd.R_old (kr HO_102003) hb) (Kd.R_base ho3)) (Kd.R_base ho4)) (fun _ h_ => h_.1))
                   have n4_ := Aside0.mk (Kd.R_mono (Kd.R_told (Kd.R_told (Kd.R_old (kr HO_102004) hb) (Kd.R_base ho3)) (Kd.R_base ho4)) (fun _ h_ => h_.1))
                   have n5_ := krb HO121 hb
                   have n6_ := krb HO140 hb
                   have n7_ := Aside0.mk (Kd.R_lower (Kd.R_new' ho0 (Kd.R_lt (kr HO_102000))) (below_size (Sq.kl2 HB GE101 GE130)))
                   have n8_ := Aside0.mk (Kd.R_lower (Kd.R_new' ho1 (Kd.R_lt (kr HO_102001))) (below_size (Sq.kl2 HB GE101 GE130)))
                   have n9_ := Aside0.mk (Kd.R_lower (Kd.R_new' ho2 (Kd.R_lt (kr HO_102002))) (below_size (Sq.kl2 HB GE101 GE130)))
                   have n10_ := Aside0.mk (Kd.R_lower (Kd.R_new' (Kd.R_new' ho3 (Kd.R_lt (kr HO_102003))) (Kd.R_lt (kr HO_102004))) (below_size (Sq.kl2 HB GE101 GE130)))
                   have n11_ := Aside0.mk (Kd.R_lower (Kd.R_new' (Kd.R_new' ho4 (Kd.R_lt (kr HO_102003))) (Kd.R_lt (kr HO_102004))) (below_size (Sq.kl2 HB GE101 GE130)))
                   have n12_ := kbb BK101 hb
                   have n13_ := kbb BK130 hb
                   have n14_ := Aside0.mk (below_step (Sq.kl2 HB GE101 GE130) hb)
                   clear HO_102000
                   clear HO_102001
                   clear HO_102002
                   clear HO_102003
                   clear HO_102004
                   clear HO121
                   clear HO140
                   clear BK101
                   clear BK130
                   clear HB
                   have HO_102000 := n0_
                   have HO_102001 := n1_
                   have HO_102002 := n2_
                   have HO_102003 := n3_
                   have HO_102004 := n4_
                   have HO121 := n5_
                   have HO140 := n6_
                   have HO143 := n7_
                   have HO146 := n8_
                   have HO149 := n9_
                   have HO152 := n10_
                   have HO155 := n11_
                   have BK101 := n12_
                   have BK130 := n13_
                   have HB := n14_
                   clear n0_ n1_ n2_ n3_ n4_ n5_ n6_ n7_ n8_ n9_ n10_ n11_ n12_ n13_ n14_
                   (try clear hb)
                   (try clear hb2)
                   (try clear hk)
                   (try clear hi)
                   (try clear ho0)
                   (try clear ho1)
                   (try clear ho2)
                   (try clear ho3)
                   (try clear ho4)
                   refine hK.out _ _ ⟨(blk_cell BK130.out 0).trans rfl, (blk_cell BK130.out 1).trans rfl, (blk_cell BK130.out 2).trans rfl, (blk_cell BK130.out 3).trans rfl, (blk_cell BK130.out 4).trans rfl, (blk_cell BK130.out 5).trans rfl, (blk_cell BK130.out 6).trans rfl⟩ (fun hHeld => ?_)
                   clear hK K
                   refine norm_ (a' := ?_) ?_ ?_
                   rotate_left
                   ·
                    show Act.put _ (some 59) _ = _
                    simp only [Act.put, List.setIfInBounds_toArray, List.set_cons_zero, List.set_cons_succ, i64_w, i32_w]
                    rfl
                   refine Sq.pu 8 (some 51) (bm 14 511) HT_ ?_
                   refine Sq.pu 9 (some 60) (bm 14 1023) HT_ ?_
                   refine Sq.pu 10 (some 61) (bm 14 2047) HT_ ?_
                   exact norm_ (by first | (simp only [putAll, Act.put, List.setIfInBounds_toArray, List.set_cons_zero, List.set_cons_succ]; done) | (simp only [putAll, Act.put, List.setIfInBounds_toArray, List.set_cons_zero, List.set_cons_succ]; rfl)) (hJ0_2_4_7 (v133, v136, .slice Ao58 y138.length co58, v142, v145, v148, v151, v154) _ ⟨hHeld, (kr HO121), (kr HO140), (by (with_reducible repeat (first | apply Kd.R_alloc | apply Kd.R_drewN | apply Kd.R_drew)); exact Kd.R_mono HO143.out (fun _ hk => hk.2)), (by (with_reducible repeat (first | apply Kd.R_alloc | apply Kd.R_drewN | apply Kd.R_drew)); exact Kd.R_mono HO146.out (fun _ hk => hk.2)), (by (with_reducible repeat (first | apply Kd.R_alloc | apply Kd.R_drewN | apply Kd.R_drew)); exact Kd.R_mono HO149.out (fun _ hk => hk.2)), (by (with_reducible repeat (first | apply Kd.R_alloc | apply Kd.R_drewN | apply Kd.R_drew)); exact Kd.R_mono HO152.out (fun _ hk => ⟨hk.1.1, ⟨hk.1.2, hk.2⟩⟩)), (by (with_reducible repeat (first | apply Kd.R_alloc | apply Kd.R_drewN | apply Kd.R_drew)); exact Kd.R_mono HO155.out (fun _ hk => ⟨hk.1.1, ⟨hk.1.2, hk.2⟩⟩)), (by (with_reducible repeat (first | apply Kd.R_alloc | apply Kd.R_drewN | apply Kd.R_drew)); exact Kd.R_mono HO_102000.out (fun _ hk => hk.2)), (by (with_reducible repeat (first | apply Kd.R_alloc | apply Kd.R_drewN | apply Kd.R_drew)); exact Kd.R_mono HO_102001.out (fun _ hk => hk.2)), (by (with_reducible repeat (first | apply Kd.R_alloc | apply Kd.R_drewN | apply Kd.R_drew)); exact Kd.R_mono HO_102002.out (fun _ hk => hk.2)), (by (with_reducible repeat (first | apply Kd.R_alloc | apply Kd.R_drewN | apply Kd.R_drew)); exact Kd.R_mono HO_102003.out (fun _ hk => ⟨hk.1.2, ⟨hk.2, hk.1.1⟩⟩)), (by (with_reducible repeat (first | apply Kd.R_alloc | apply Kd.R_drewN | apply Kd.R_drew)); exact Kd.R_mono HO_102004.out (fun _ hk => ⟨hk.1.2, ⟨hk.2, hk.1.1⟩⟩)), (kb BK101), (kb BK130), (Sq.kl2 HB GE101 GE130)⟩)
                  ·
                   skip
                   refine box_step ?hg (N := 14) ?hd (cs := #[.slice none 0 0, .slice none 0 0, .slice none 0 0, .slice none 0 0, .slice none 0 0]) (t := 27) ?hr ?_; (case hd => rfl); (case hg => rfl); (case hr => first | (go_simp; done) | (go_simp; rfl))
                   intro gb157 hg w58 hbox hb
                   have n0_ := krb HO_102000 hb
                   have n1_ := krb HO_102001 hb
                   have n2_ := krb HO_102002 hb
                   have n3_ := krb HO_102003 hb
                   have n4_ := krb HO_102004 hb
                   have n5_ := krb HO121 hb
                   have n6_ := krb HO140 hb
                   have n7_ := kbb BK101 hb
                   have n8_ := kbb BK130 hb
                   have n9_ := Aside0.mk (below_step (Sq.kl2 HB GE101 GE130) hb)
                   have n10_ := Aside0.mk (hbox)
                   have n11_ := Aside0.mk ((by rw [hg]; exact (below_size (Sq.kl2 HB GE101 GE130)) : w.heap.size ≤ gb157))
                   have n12_ := Aside0.mk ((by rw [hg]; exact (below_size (Sq.kl2 HB GE101 GE130)) : w.heap.size ≤ gb157))
                   have n13_ := Aside0.mk ((by rw [hg]; exact Nat.ne_of_lt (blk_lt (kb BK101)) : gb101 ≠ gb157))
                   have n14_ := Aside0.mk ((by rw [hg]; exact Nat.ne_of_gt (blk_lt (kb BK101)) : gb157 ≠ gb101))
                   have n15_ := Aside0.mk ((by rw [hg]; exact Nat.ne_of_lt (blk_lt (kb BK130)) : gb130 ≠ gb157))
                   have n16_ := Aside0.mk ((by rw [hg]; exact Nat.ne_of_gt (blk_lt (kb BK130)) : gb157 ≠ gb130))
                   clear HO_102000
                   clear HO_102001
                   clear HO_102002
                   clear HO_102003
                   clear HO_102004
                   clear HO121
                   clear HO140
                   clear BK101
                   clear BK130
                   clear HB
                   have HO_102000 := n0_
                   have HO_102001 := n1_
                   have HO_102002 := n2_
                   have HO_102003 := n3_
                   have HO_102004 := n4_
                   have HO121 := n5_
                   have HO140 := n6_
                   have BK101 := n7_
                   have BK130 := n8_
                   have HB := n9_
                   have BK157 := n10_
                   have GW157 := n11_
                   have GE157 := n12_
                   have NB101_157 := n13_
                   have NB157_101 := n14_
                   have NB130_157 := n15_
                   have NB157_130 := n16_
                   clear n0_ n1_ n2_ n3_ n4_ n5_ n6_ n7_ n8_ n9_ n10_ n11_ n12_ n13_ n14_ n15_ n16_
                   clear hb hbox hg
                   refine hK.out _ _ ⟨(blk_cell BK130.out 0).trans rfl, (blk_cell BK130.out 1).trans rfl, (blk_cell BK130.out 2).trans rfl, (blk_cell BK130.out 3).trans rfl, (blk_cell BK130.out 4).trans rfl, (blk_cell BK130.out 5).trans rfl, (blk_cell BK130.out 6).trans rfl⟩ (fun hHeld => ?_)
                   clear hK K
                   refine norm_ (a' := ?_) ?_ ?_
                   rotate_left
                   ·
                    show Act.put _ (some 14) _ = _
                    simp only [Act.put, List.setIfInBounds_toArray, List.set_cons_zero, List.set_cons_succ, i64_w, i32_w]
                    rfl
                   exact norm_ (by first | (simp only [putAll, Act.put, List.setIfInBounds_toArray, List.set_cons_zero, List.set_cons_succ]; done) | (simp only [putAll, Act.put, List.setIfInBounds_toArray, List.set_cons_zero, List.set_cons_succ]; rfl)) (hJ0_2_4_11 (v133, v136, .slice Ao58 y138.length co58, gb157) _ ⟨hHeld, (kr HO121), (kr HO140), (kr HO_102000), (kr HO_102001), (kr HO_102002), (kr HO_102003), (kr HO_102004), (kb BK101), (kb BK130), (kb BK157), GW157.out, GE157.out, NB101_157.out, NB157_101.out, NB130_157.out, NB157_130.out, (Sq.kl3 HB GE101 GE130 GE157)⟩)
                ·
                 skip
                 rintro ⟨v133, v136, v139, gb157⟩ w58 ⟨hS_, h0_, h1_, h2_, h3_, h4_, h5_, h6_, h7_, h8_, h9_, h10_, h11_, h12_, h13_, h14_, h15_, h16_⟩
                 have n0_ : Aside0 (Kd.R (Kd.int .u8) 5 w58 w.heap.size (fun k_ => some k_ ≠ (v139 : Value).ownBlock) (.slice Ao50 t119.length co50) t119) := ⟨h0_⟩
                 have n1_ : Aside0 (Kd.R (Kd.int .u8) 5 w58 w.heap.size (fun k_ => some k_ ≠ (.slice Ao50 t119.length co50 : Value).ownBlock) v139 y138) := ⟨h1_⟩
                 have n2_ : Aside0 (Kd.R k56 56 w58 w.heap.size (fun _ => True) (.slice Ao15 t103.length co15) t103) := ⟨h2_⟩
                 have n3_ : Aside0 (Kd.R k54 54 w58 w.heap.size (fun _ => True) (.slice Ao17 t106.length co17) t106) := ⟨h3_⟩
                 have n4_ : Aside0 (Kd.R k67 67 w58 w.heap.size (fun _ => True) (.slice Ao18 t109.length co18) t109) := ⟨h4_⟩
                 have n5_ : Aside0 (Kd.R Kd.bool 4 w58 w.heap.size (fun k_ => some k_ ≠ (.slice Ao20 t115.length co20 : Value).ownBlock) (.slice Ao19 t112.length co19) t112) := ⟨h5_⟩
                 have n6_ : Aside0 (Kd.R Kd.bool 4 w58 w.heap.size (fun k_ => some k_ ≠ (.slice Ao19 t112.length co19 : Value).ownBlock) (.slice Ao20 t115.length co20) t115) := ⟨h6_⟩
                 have n7_ : Aside0 (w58.heap[gb101]? = some (.cells #[.slice Ao15 t103.length co15, .slice Ao17 t106.length co17, .slice Ao18 t109.length co18, .slice Ao19 t112.length co19, .slice Ao20 t115.length co20] 27 (0, 0))) := ⟨h7_⟩
                 have n8_ : Aside0 (w58.heap[gb130]? = some (.cells #[.int .i64 t122, .int .i64 t123, .int .i64 t124, .int .i64 t125, .int .i64 t126, .int .i64 t127, .int .i64 t128] 35 (0, 0))) := ⟨h8_⟩
                 have n9_ : Aside0 (w58.heap[gb157]? = some (.cells #[.slice none 0 0, .slice none 0 0, .slice none 0 0, .slice none 0 0, .slice none 0 0] 27 (0, 0))) := ⟨h9_⟩
                 have n10_ : Aside0 (w.heap.size ≤ gb157) := ⟨h10_⟩
                 have n11_ : Aside0 (w.heap.size ≤ gb157) := ⟨h11_⟩
                 have n12_ : Aside0 (gb101 ≠ gb157) := ⟨h12_⟩
                 have n13_ : Aside0 (gb157 ≠ gb101) := ⟨h13_⟩
                 have n14_ : Aside0 (gb130 ≠ gb157) := ⟨h14_⟩
                 have n15_ : Aside0 (gb157 ≠ gb130) := ⟨h15_⟩
                 have n16_ : Aside0 (Below w.heap.size w w58) := ⟨h16_⟩
                 clear HO_102000
                 clear HO_102001
                 clear HO_102002
                 clear HO_102003
                 clear HO_102004
                 clear HO121
                 clear BK101
                 clear BK130
                 clear HB
                 clear h0_ h1_ h2_ h3_ h4_ h5_ h6_ h7_ h8_ h9_ h10_ h11_ h12_ h13_ h14_ h15_ h16_
                 have HO121 := n0_
                 have HO140 := n1_
                 have HO_102000 := n2_
                 have HO_102001 := n3_
                 have HO_102002 := n4_
                 have HO_102003 := n5_
                 have HO_102004 := n6_
                 have BK101 := n7_
                 have BK130 := n8_
                 have BK157 := n9_
                 have GW157 := n10_
                 have GE157 := n11_
                 have NB101_157 := n12_
                 have NB157_101 := n13_
                 have NB130_157 := n14_
                 have NB157_130 := n15_
                 have HB := n16_
                 clear n0_ n1_ n2_ n3_ n4_ n5_ n6_ n7_ n8_ n9_ n10_ n11_ n12_ n13_ n14_ n15_ n16_
                 have hHeld : w58.cell? ⟨gb130, 0, none⟩ = some (.int .i64 t122) ∧ w58.cell? ⟨gb130, 1, none⟩ = some (.int .i64 t123) ∧ w58.cell? ⟨gb130, 2, none⟩ = some (.int .i64 t124) ∧ w58.cell? ⟨gb130, 3, none⟩ = some (.int .i64 t125) ∧ w58.cell? ⟨gb130, 4, none⟩ = some (.int .i64 t126) ∧ w58.cell? ⟨gb130, 5, none⟩ = some (.int .i64 t127) ∧ w58.cell? ⟨gb130, 6, none⟩ = some (.int .i64 t128) := hS_
                 obtain ⟨Ao59, co59, eo59⟩ := Kd.R_slice HO140.out
                 (first | subst eo59 | (injection eo59 with f1_ f2_ f3_; have f4_ := f1_.symm; have f5_ := f3_.symm; clear f1_ f2_ f3_; subst f4_; subst f5_))
                 refine norm_ (a' := ?_) ?_ ?_
                 rotate_left
                 ·
                  simp only [putAll, Act.put, List.setIfInBounds_toArray, List.set_cons_zero, List.set_cons_succ]
                  rfl
                 refine one_ (i := 7) (N := some 59) (bm 14 2303) rfl rfl (one_of HT_.out (by kernel_rfl)) (by decide) (fun K hK => ?_)
                 refine goes_ Try.func21 (by kernel_rfl) rfl #[.slice Ao59 y138.length co59, .agg #[.int .i64 t122, .int .i64 t123, .int .i64 t124, .int .i64 t125, .int .i64 t126, .int .i64 t127, .int .i64 t128], .int .i64 x10_9] (by rfl) rfl rfl (by (try simp only [List.map_toArray, List.map_cons, List.map_nil]); first | done | rfl | (simp only [List.length_drop, List.length_take]; rfl)) ?_
                 with_reducible refine (block_Decode.calls _ _ y138 t122 t123 t124 t125 t126 t127 t128 x10_9 t141 t144 t147 t150 t153 t156 _ ?side1 ?side2 A34.out).mono ?_
                 (case side1 => exact Sq.qc HO140)
                 (case side2 => exact Sq.ql HO140)
                 rintro e w60 ⟨v142, v145, v148, v151, v154, rfl, ho0, ho1, ho2, ho3, ho4, hb⟩
                 refine ⟨_, rfl, ?_⟩
                 have n0_ := Aside0.mk (Kd.R_elder' (kr HO_102000) (Kd.R_base ho0) hb)
                 have n1_ := Aside0.mk (Kd.R_elder' (kr HO_102001) (Kd.R_base ho1) hb)
                 have n2_ := Aside0.mk (Kd.R_elder' (kr HO_102002) (Kd.R_base ho2) hb)
                 have n3_ := Aside0.mk (Kd.R_mono (Kd.R_told (Kd.R_told (Kd.R_old (kr HO_102003) hb) (Kd.R_base ho3)) (Kd.R_base ho4)) (fun _ h_ => h_.1))
                 have n4_ := Aside0.mk (Kd.R_mono (Kd.R_told (Kd.R_told (Kd.R_old (kr HO_102004) hb) (Kd.R_base ho3)) (Kd.R_base ho4)) (fun _ h_ => h_.1))
                 have n5_ := krb HO121 hb
                 have n6_ := krb HO140 hb
                 have n7_ := Aside0.mk (Kd.R_lower (Kd.R_new' ho0 (Kd.R_lt (kr HO_102000))) (below_size (Sq.kl3 HB GE101 GE130 GE157)))
                 have n8_ := Aside0.mk (Kd.R_lower (Kd.R_new' ho1 (Kd.R_lt (kr HO_102001))) (below_size (Sq.kl3 HB GE101 GE130 GE157)))
                 have n9_ := Aside0.mk (Kd.R_lower (Kd.R_new' ho2 (Kd.R_lt (kr HO_102002))) (below_size (Sq.kl3 HB GE101 GE130 GE157)))
                 have n10_ := Aside0.mk (Kd.R_lower (Kd.R_new' (Kd.R_new' ho3 (Kd.R_lt (kr HO_102003))) (Kd.R_lt (kr HO_102004))) (below_size (Sq.kl3 HB GE101 GE130 GE157)))
                 have n11_ := Aside0.mk (Kd.R_lower (Kd.R_new' (Kd.R_new' ho4 (Kd.R_lt (kr HO_102003))) (Kd.R_lt (kr HO_102004))) (below_size (Sq.kl3 HB GE101 GE130 GE157)))
                 have n12_ := kbb BK101 hb
                 have n13_ := kbb BK130 hb
                 have n14_ := kbb BK157 hb
                 have n15_ := Aside0.mk (below_step (Sq.kl3 HB GE101 GE130 GE157) hb)
                 clear HO_102000
                 clear HO_102001
                 clear HO_102002
                 clear HO_102003
                 clear HO_102004
                 clear HO121
                 clear HO140
                 clear BK101
                 clear BK130
                 clear BK157
                 clear HB
                 have HO_102000 := n0_
                 have HO_102001 := n1_
                 have HO_102002 := n2_
                 have HO_102003 := n3_
                 have HO_102004 := n4_
                 have HO121 := n5_
                 have HO140 := n6_
                 have HO143 := n7_
                 have HO146 := n8_
                 have HO149 := n9_
                 have HO152 := n10_
                 have HO155 := n11_
                 have BK101 := n12_
                 have BK130 := n13_
                 have BK157 := n14_
                 have HB := n15_
                 clear n0_ n1_ n2_ n3_ n4_ n5_ n6_ n7_ n8_ n9_ n10_ n11_ n12_ n13_ n14_ n15_
                 (try clear hb)
                 (try clear hb2)
                 (try clear hk)
                 (try clear hi)
                 (try clear ho0)
                 (try clear ho1)
                 (try clear ho2)
                 (try clear ho3)
                 (try clear ho4)
                 refine hK.out _ _ ⟨(blk_cell BK130.out 0).trans rfl, (blk_cell BK130.out 1).trans rfl, (blk_cell BK130.out 2).trans rfl, (blk_cell BK130.out 3).trans rfl, (blk_cell BK130.out 4).trans rfl, (blk_cell BK130.out 5).trans rfl, (blk_cell BK130.out 6).trans rfl⟩ (fun hHeld => ?_)
                 clear hK K
                 refine norm_ (a' := ?_) ?_ ?_
                 rotate_left
                 ·
                  show Act.put _ (some 59) _ = _
                  simp only [Act.put, List.setIfInBounds_toArray, List.set_cons_zero, List.set_cons_succ, i64_w, i32_w]
                  rfl
                 refine Sq.pu 8 (some 51) (bm 14 2559) HT_ ?_
                 refine Sq.pu 9 (some 60) (bm 14 3071) HT_ ?_
                 refine Sq.pu 10 (some 61) (bm 14 4095) HT_ ?_
                 exact norm_ (by first | (simp only [putAll, Act.put, List.setIfInBounds_toArray, List.set_cons_zero, List.set_cons_succ]; done) | (simp only [putAll, Act.put, List.setIfInBounds_toArray, List.set_cons_zero, List.set_cons_succ]; rfl)) (hJ0_2_4_7_11 (v133, v136, .slice Ao59 y138.length co59, v142, v145, v148, v151, v154, gb157) _ ⟨hHeld, (kr HO121), (kr HO140), (by (with_reducible repeat (first | apply Kd.R_alloc | apply Kd.R_drewN | apply Kd.R_drew)); exact Kd.R_mono HO143.out (fun _ hk => hk.2)), (by (with_reducible repeat (first | apply Kd.R_alloc | apply Kd.R_drewN | apply Kd.R_drew)); exact Kd.R_mono HO146.out (fun _ hk => hk.2)), (by (with_reducible repeat (first | apply Kd.R_alloc | apply Kd.R_drewN | apply Kd.R_drew)); exact Kd.R_mono HO149.out (fun _ hk => hk.2)), (by (with_reducible repeat (first | apply Kd.R_alloc | apply Kd.R_drewN | apply Kd.R_drew)); exact Kd.R_mono HO152.out (fun _ hk => ⟨hk.1.1, ⟨hk.1.2, hk.2⟩⟩)), (by (with_reducible repeat (first | apply Kd.R_alloc | apply Kd.R_drewN | apply Kd.R_drew)); exact Kd.R_mono HO155.out (fun _ hk => ⟨hk.1.1, ⟨hk.1.2, hk.2⟩⟩)), (by (with_reducible repeat (first | apply Kd.R_alloc | apply Kd.R_drewN | apply Kd.R_drew)); exact Kd.R_mono HO_102000.out (fun _ hk => hk.2)), (by (with_reducible repeat (first | apply Kd.R_alloc | apply Kd.R_drewN | apply Kd.R_drew)); exact Kd.R_mono HO_102001.out (fun _ hk => hk.2)), (by (with_reducible repeat (first | apply Kd.R_alloc | apply Kd.R_drewN | apply Kd.R_drew)); exact Kd.R_mono HO_102002.out (fun _ hk => hk.2)), (by (with_reducible repeat (first | apply Kd.R_alloc | apply Kd.R_drewN | apply Kd.R_drew)); exact Kd.R_mono HO_102003.out (fun _ hk => ⟨hk.1.2, ⟨hk.2, hk.1.1⟩⟩)), (by (with_reducible repeat (first | apply Kd.R_alloc | apply Kd.R_drewN | apply Kd.R_drew)); exact Kd.R_mono HO_102004.out (fun _ hk => ⟨hk.1.2, ⟨hk.2, hk.1.1⟩⟩)), (kb BK101), (kb BK130), (kb BK157), GW157.out, GE157.out, NB101_157.out, NB157_101.out, NB130_157.out, NB157_130.out, (Sq.kl3 HB GE101 GE130 GE157)⟩)
               ·
                skip
                rintro ⟨v133, v136, v139, v142, v145, v148, v151, v154⟩ w59 ⟨hS_, h0_, h1_, h2_, h3_, h4_, h5_, h6_, h7_, h8_, h9_, h10_, h11_, h12_, h13_, h14_⟩
                have n0_ : Aside0 (Kd.R (Kd.int .u8) 5 w59 w.heap.size (fun k_ => some k_ ≠ (v139 : Value).ownBlock) (.slice Ao50 t119.length co50) t119) := ⟨h0_⟩
                have n1_ : Aside0 (Kd.R (Kd.int .u8) 5 w59 w.heap.size (fun k_ => some k_ ≠ (.slice Ao50 t119.length co50 : Value).ownBlock) v139 y138) := ⟨h1_⟩
                have n2_ : Aside0 (Kd.R k56 56 w59 w.heap.size (fun k_ => some k_ ≠ (.slice Ao15 t103.length co15 : Value).ownBlock) v142 t141) := ⟨h2_⟩
                have n3_ : Aside0 (Kd.R k54 54 w59 w.heap.size (fun k_ => some k_ ≠ (.slice Ao17 t106.length co17 : Value).ownBlock) v145 t144) := ⟨h3_⟩
                have n4_ : Aside0 (Kd.R k67 67 w59 w.heap.size (fun k_ => some k_ ≠ (.slice Ao18 t109.length co18 : Value).ownBlock) v148 t147) := ⟨h4_⟩
                have n5_ : Aside0 (Kd.R Kd.bool 4 w59 w.heap.size (fun k_ => some k_ ≠ (v154 : Value).ownBlock ∧ some k_ ≠ (.slice Ao19 t112.length co19 : Value).ownBlock ∧ some k_ ≠ (.slice Ao20 t115.length co20 : Value).ownBlock) v151 t150) := ⟨h5_⟩
                have n6_ : Aside0 (Kd.R Kd.bool 4 w59 w.heap.size (fun k_ => some k_ ≠ (v151 : Value).ownBlock ∧ some k_ ≠ (.slice Ao19 t112.length co19 : Value).ownBlock ∧ some k_ ≠ (.slice Ao20 t115.length co20 : Value).ownBlock) v154 t153) := ⟨h6_⟩
                have n7_ : Aside0 (Kd.R k56 56 w59 w.heap.size (fun k_ => some k_ ≠ (v142 : Value).ownBlock) (.slice Ao15 t103.length co15) t103) := ⟨h7_⟩
                have n8_ : Aside0 (Kd.R k54 54 w59 w.heap.size (fun k_ => some k_ ≠ (v145 : Value).ownBlock) (.slice Ao17 t106.length co17) t106) := ⟨h8_⟩
                have n9_ : Aside0 (Kd.R k67 67 w59 w.heap.size (fun k_ => some k_ ≠ (v148 : Value).ownBlock) (.slice Ao18 t109.length co18) t109) := ⟨h9_⟩
                have n10_ : Aside0 (Kd.R Kd.bool 4 w59 w.heap.size (fun k_ => some k_ ≠ (v151 : Value).ownBlock ∧ some k_ ≠ (v154 : Value).ownBlock ∧ some k_ ≠ (.slice Ao20 t115.length co20 : Value).ownBlock) (.slice Ao19 t112.length co19) t112) := ⟨h10_⟩
                have n11_ : Aside0 (Kd.R Kd.bool 4 w59 w.heap.size (fun k_ => some k_ ≠ (v151 : Value).ownBlock ∧ some k_ ≠ (v154 : Value).ownBlock ∧ some k_ ≠ (.slice Ao19 t112.length co19 : Value).ownBlock) (.slice Ao20 t115.length co20) t115) := ⟨h11_⟩
                have n12_ : Aside0 (w59.heap[gb101]? = some (.cells #[.slice Ao15 t103.length co15, .slice Ao17 t106.length co17, .slice Ao18 t109.length co18, .slice Ao19 t112.length co19, .slice Ao20 t115.length co20] 27 (0, 0))) := ⟨h12_⟩
                have n13_ : Aside0 (w59.heap[gb130]? = some (.cells #[.int .i64 t122, .int .i64 t123, .int .i64 t124, .int .i64 t125, .int .i64 t126, .int .i64 t127, .int .i64 t128] 35 (0, 0))) := ⟨h13_⟩
                have n14_ : Aside0 (Below w.heap.size w w59) := ⟨h14_⟩
                clear HO_102000
                clear HO_102001
                clear HO_102002
                clear HO_102003
                clear HO_102004
                clear HO121
                clear BK101
                clear BK130
                clear HB
                clear h0_ h1_ h2_ h3_ h4_ h5_ h6_ h7_ h8_ h9_ h10_ h11_ h12_ h13_ h14_
                have HO121 := n0_
                have HO140 := n1_
                have HO143 := n2_
                have HO146 := n3_
                have HO149 := n4_
                have HO152 := n5_
                have HO155 := n6_
                have HO_102000 := n7_
                have HO_102001 := n8_
                have HO_102002 := n9_
                have HO_102003 := n10_
                have HO_102004 := n11_
                have BK101 := n12_
                have BK130 := n13_
                have HB := n14_
                clear n0_ n1_ n2_ n3_ n4_ n5_ n6_ n7_ n8_ n9_ n10_ n11_ n12_ n13_ n14_
                have hHeld : w59.cell? ⟨gb130, 0, none⟩ = some (.int .i64 t122) ∧ w59.cell? ⟨gb130, 1, none⟩ = some (.int .i64 t123) ∧ w59.cell? ⟨gb130, 2, none⟩ = some (.int .i64 t124) ∧ w59.cell? ⟨gb130, 3, none⟩ = some (.int .i64 t125) ∧ w59.cell? ⟨gb130, 4, none⟩ = some (.int .i64 t126) ∧ w59.cell? ⟨gb130, 5, none⟩ = some (.int .i64 t127) ∧ w59.cell? ⟨gb130, 6, none⟩ = some (.int .i64 t128) := hS_
                refine norm_ (a' := ?_) ?_ ?_
                rotate_left
                ·
                 simp only [putAll, Act.put, List.setIfInBounds_toArray, List.set_cons_zero, List.set_cons_succ]
                 rfl
                refine one_ (i := 11) (N := some 14) (bm 14 4095) rfl rfl (one_of HT_.out (by kernel_rfl)) (by decide) (fun K hK => ?_)
                refine box_step ?hg (N := 14) ?hd (cs := #[.slice none 0 0, .slice none 0 0, .slice none 0 0, .slice none 0 0, .slice none 0 0]) (t := 27) ?hr ?_; (case hd => rfl); (case hg => rfl); (case hr => first | (go_simp; done) | (go_simp; rfl))
                intro gb157 hg w60 hbox hb
                have n0_ := krb HO_102000 hb
                have n1_ := krb HO_102001 hb
                have n2_ := krb HO_102002 hb
                have n3_ := krb HO_102003 hb
                have n4_ := krb HO_102004 hb
                have n5_ := krb HO121 hb
                have n6_ := krb HO140 hb
                have n7_ := krb HO143 hb
                have n8_ := krb HO146 hb
                have n9_ := krb HO149 hb
                have n10_ := krb HO152 hb
                have n11_ := krb HO155 hb
                have n12_ := kbb BK101 hb
                have n13_ := kbb BK130 hb
                have n14_ := Aside0.mk (below_step (Sq.kl2 HB GE101 GE130) hb)
                have n15_ := Aside0.mk (hbox)
                have n16_ := Aside0.mk ((by rw [hg]; exact (below_size (Sq.kl2 HB GE101 GE130)) : w.heap.size ≤ gb157))
                have n17_ := Aside0.mk ((by rw [hg]; exact (below_size (Sq.kl2 HB GE101 GE130)) : w.heap.size ≤ gb157))
                have n18_ := Aside0.mk ((by rw [hg]; exact Nat.ne_of_lt (blk_lt (kb BK101)) : gb101 ≠ gb157))
                have n19_ := Aside0.mk ((by rw [hg]; exact Nat.ne_of_gt (blk_lt (kb BK101)) : gb157 ≠ gb101))
                have n20_ := Aside0.mk ((by rw [hg]; exact Nat.ne_of_lt (blk_lt (kb BK130)) : gb130 ≠ gb157))
                have n21_ := Aside0.mk ((by rw [hg]; exact Nat.ne_of_gt (blk_lt (kb BK130)) : gb157 ≠ gb130))
                clear HO_102000
                clear HO_102001
                clear HO_102002
                clear HO_102003
                clear HO_102004
                clear HO121
                clear HO140
                clear HO143
                clear HO146
                clear HO149
                clear HO152
                clear HO155
                clear BK101
                clear BK130
                clear HB
                have HO_102000 := n0_
                have HO_102001 := n1_
                have HO_102002 := n2_
                have HO_102003 := n3_
                have HO_102004 := n4_
                have HO121 := n5_
                have HO140 := n6_
                have HO143 := n7_
                have HO146 := n8_
                have HO149 := n9_
                have HO152 := n10_
                have HO155 := n11_
                have BK101 := n12_
                have BK130 := n13_
                have HB := n14_
                have BK157 := n15_
                have GW157 := n16_
                have GE157 := n17_
                have NB101_157 := n18_
                have NB157_101 := n19_
                have NB130_157 := n20_
                have NB157_130 := n21_
                clear n0_ n1_ n2_ n3_ n4_ n5_ n6_ n7_ n8_ n9_ n10_ n11_ n12_ n13_ n14_ n15_ n16_ n17_ n18_ n19_ n20_ n21_
                clear hb hbox hg
                refine hK.out _ _ ⟨(blk_cell BK130.out 0).trans rfl, (blk_cell BK130.out 1).trans rfl, (blk_cell BK130.out 2).trans rfl, (blk_cell BK130.out 3).trans rfl, (blk_cell BK130.out 4).trans rfl, (blk_cell BK130.out 5).trans rfl, (blk_cell BK130.out 6).trans rfl⟩ (fun hHeld => ?_)
                clear hK K
                refine norm_ (a' := ?_) ?_ ?_
                rotate_left
                ·
                 show Act.put _ (some 14) _ = _
                 simp only [Act.put, List.setIfInBounds_toArray, List.set_cons_zero, List.set_cons_succ, i64_w, i32_w]
                 rfl
                exact norm_ (by first | (simp only [putAll, Act.put, List.setIfInBounds_toArray, List.set_cons_zero, List.set_cons_succ]; done) | (simp only [putAll, Act.put, List.setIfInBounds_toArray, List.set_cons_zero, List.set_cons_succ]; rfl)) (hJ0_2_4_7_11 (v133, v136, v139, v142, v145, v148, v151, v154, gb157) _ ⟨hHeld, (kr HO121), (kr HO140), (kr HO143), (kr HO146), (kr HO149), (kr HO152), (kr HO155), (kr HO_102000), (kr HO_102001), (kr HO_102002), (kr HO_102003), (kr HO_102004), (kb BK101), (kb BK130), (kb BK157), GW157.out, GE157.out, NB101_157.out, NB157_101.out, NB130_157.out, NB157_130.out, (Sq.kl3 HB GE101 GE130 GE157)⟩)
              rintro ⟨v133, v136, v139, v142, v145, v148, v151, v154, gb157⟩ w60 ⟨hS_, h0_, h1_, h2_, h3_, h4_, h5_, h6_, h7_, h8_, h9_, h10_, h11_, h12_, h13_, h14_, h15_, h16_, h17_, h18_, h19_, h20_, h21_⟩
              have n0_ : Aside0 (Kd.R (Kd.int .u8) 5 w60 w.heap.size (fun k_ => some k_ ≠ (v139 : Value).ownBlock) (.slice Ao50 t119.length co50) t119) := ⟨h0_⟩
              have n1_ : Aside0 (Kd.R (Kd.int .u8) 5 w60 w.heap.size (fun k_ => some k_ ≠ (.slice Ao50 t119.length co50 : Value).ownBlock) v139 y138) := ⟨h1_⟩
              have n2_ : Aside0 (Kd.R k56 56 w60 w.heap.size (fun k_ => some k_ ≠ (.slice Ao15 t103.length co15 : Value).ownBlock) v142 t141) := ⟨h2_⟩
              have n3_ : Aside0 (Kd.R k54 54 w60 w.heap.size (fun k_ => some k_ ≠ (.slice Ao17 t106.length co17 : Value).ownBlock) v145 t144) := ⟨h3_⟩
              have n4_ : Aside0 (Kd.R k67 67 w60 w.heap.size (fun k_ => some k_ ≠ (.slice Ao18 t109.length co18 : Value).ownBlock) v148 t147) := ⟨h4_⟩
              have n5_ : Aside0 (Kd.R Kd.bool 4 w60 w.heap.size (fun k_ => some k_ ≠ (v154 : Value).ownBlock ∧ some k_ ≠ (.slice Ao19 t112.length co19 : Value).ownBlock ∧ some k_ ≠ (.slice Ao20 t115.length co20 : Value).ownBlock) v151 t150) := ⟨h5_⟩
              have n6_ : Aside0 (Kd.R Kd.bool 4 w60 w.heap.size (fun k_ => some k_ ≠ (v151 : Value).ownBlock ∧ some k_ ≠ (.slice Ao19 t112.length co19 : Value).ownBlock ∧ some k_ ≠ (.slice Ao20 t115.length co20 : Value).ownBlock) v154 t153) := ⟨h6_⟩
              have n7_ : Aside0 (Kd.R k56 56 w60 w.heap.size (fun k_ => some k_ ≠ (v142 : Value).ownBlock) (.slice Ao15 t103.length co15) t103) := ⟨h7_⟩
              have n8_ : Aside0 (Kd.R k54 54 w60 w.heap.size (fun k_ => some k_ ≠ (v145 : Value).ownBlock) (.slice Ao17 t106.length co17) t106) := ⟨h8_⟩
              have n9_ : Aside0 (Kd.R k67 67 w60 w.heap.size (fun k_ => some k_ ≠ (v148 : Value).ownBlock) (.slice Ao18 t109.length co18) t109) := ⟨h9_⟩
              have n10_ : Aside0 (Kd.R Kd.bool 4 w60 w.heap.size (fun k_ => some k_ ≠ (v151 : Value).ownBlock ∧ some k_ ≠ (v154 : Value).ownBlock ∧ some k_ ≠ (.slice Ao20 t115.length co20 : Value).ownBlock) (.slice Ao19 t112.length co19) t112) := ⟨h10_⟩
              have n11_ : Aside0 (Kd.R Kd.bool 4 w60 w.heap.size (fun k_ => some k_ ≠ (v151 : Value).ownBlock ∧ some k_ ≠ (v154 : Value).ownBlock ∧ some k_ ≠ (.slice Ao19 t112.length co19 : Value).ownBlock) (.slice Ao20 t115.length co20) t115) := ⟨h11_⟩
              have n12_ : Aside0 (w60.heap[gb101]? = some (.cells #[.slice Ao15 t103.length co15, .slice Ao17 t106.length co17, .slice Ao18 t109.length co18, .slice Ao19 t112.length co19, .slice Ao20 t115.length co20] 27 (0, 0))) := ⟨h12_⟩
              have n13_ : Aside0 (w60.heap[gb130]? = some (.cells #[.int .i64 t122, .int .i64 t123, .int .i64 t124, .int .i64 t125, .int .i64 t126, .int .i64 t127, .int .i64 t128] 35 (0, 0))) := ⟨h13_⟩
              have n14_ : Aside0 (w60.heap[gb157]? = some (.cells #[.slice none 0 0, .slice none 0 0, .slice none 0 0, .slice none 0 0, .slice none 0 0] 27 (0, 0))) := ⟨h14_⟩
              have n15_ : Aside0 (w.heap.size ≤ gb157) := ⟨h15_⟩
              have n16_ : Aside0 (w.heap.size ≤ gb157) := ⟨h16_⟩
              have n17_ : Aside0 (gb101 ≠ gb157) := ⟨h17_⟩
              have n18_ : Aside0 (gb157 ≠ gb101) := ⟨h18_⟩
              have n19_ : Aside0 (gb130 ≠ gb157) := ⟨h19_⟩
              have n20_ : Aside0 (gb157 ≠ gb130) := ⟨h20_⟩
              have n21_ : Aside0 (Below w.heap.size w w60) := ⟨h21_⟩
              clear HO_102000
              clear HO_102001
              clear HO_102002
              clear HO_102003
              clear HO_102004
              clear HO121
              clear BK101
              clear BK130
              clear HB
              clear h0_ h1_ h2_ h3_ h4_ h5_ h6_ h7_ h8_ h9_ h10_ h11_ h12_ h13_ h14_ h15_ h16_ h17_ h18_ h19_ h20_ h21_
              have HO121 := n0_
              have HO140 := n1_
              have HO143 := n2_
              have HO146 := n3_
              have HO149 := n4_
              have HO152 := n5_
              have HO155 := n6_
              have HO_102000 := n7_
              have HO_102001 := n8_
              have HO_102002 := n9_
              have HO_102003 := n10_
              have HO_102004 := n11_
              have BK101 := n12_
              have BK130 := n13_
              have BK157 := n14_
              have GW157 := n15_
              have GE157 := n16_
              have NB101_157 := n17_
              have NB157_101 := n18_
              have NB130_157 := n19_
              have NB157_130 := n20_
              have HB := n21_
              clear n0_ n1_ n2_ n3_ n4_ n5_ n6_ n7_ n8_ n9_ n10_ n11_ n12_ n13_ n14_ n15_ n16_ n17_ n18_ n19_ n20_ n21_
              have hHeld : w60.cell? ⟨gb130, 0, none⟩ = some (.int .i64 t122) ∧ w60.cell? ⟨gb130, 1, none⟩ = some (.int .i64 t123) ∧ w60.cell? ⟨gb130, 2, none⟩ = some (.int .i64 t124) ∧ w60.cell? ⟨gb130, 3, none⟩ = some (.int .i64 t125) ∧ w60.cell? ⟨gb130, 4, none⟩ = some (.int .i64 t126) ∧ w60.cell? ⟨gb130, 5, none⟩ = some (.int .i64 t127) ∧ w60.cell? ⟨gb130, 6, none⟩ = some (.int .i64 t128) := hS_
              obtain ⟨Ao61, co61, eo61⟩ := Kd.R_slice HO143.out
              (first | subst eo61 | (injection eo61 with f1_ f2_ f3_; have f4_ := f1_.symm; have f5_ := f3_.symm; clear f1_ f2_ f3_; subst f4_; subst f5_))
              obtain ⟨Ao63, co63, eo63⟩ := Kd.R_slice HO146.out
              (first | subst eo63 | (injection eo63 with f1_ f2_ f3_; have f4_ := f1_.symm; have f5_ := f3_.symm; clear f1_ f2_ f3_; subst f4_; subst f5_))
              obtain ⟨Ao65, co65, eo65⟩ := Kd.R_slice HO149.out
              (first | subst eo65 | (injection eo65 with f1_ f2_ f3_; have f4_ := f1_.symm; have f5_ := f3_.symm; clear f1_ f2_ f3_; subst f4_; subst f5_))
              obtain ⟨Ao67, co67, eo67⟩ := Kd.R_slice HO152.out
              (first | subst eo67 | (injection eo67 with f1_ f2_ f3_; have f4_ := f1_.symm; have f5_ := f3_.symm; clear f1_ f2_ f3_; subst f4_; subst f5_))
              obtain ⟨Ao69, co69, eo69⟩ := Kd.R_slice HO155.out
              (first | subst eo69 | (injection eo69 with f1_ f2_ f3_; have f4_ := f1_.symm; have f5_ := f3_.symm; clear f1_ f2_ f3_; subst f4_; subst f5_))
              refine norm_ (a' := ?_) ?_ ?_
              rotate_left
              ·
               simp only [putAll, Act.put, List.setIfInBounds_toArray, List.set_cons_zero, List.set_cons_succ]
               rfl
              refine one_ (i := 12) (N := none) (bm 14 8191) rfl rfl (one_of HT_.out (by kernel_rfl)) (by decide) (fun K hK => ?_)
              have hs62 := kc BK157 0 rfl
              have hfs62 := blk_frozen BK157.out 0
              have hns62_0 := NB101_157.out
              have hns62_1 := NB130_157.out
              have hms62_0 := NB157_101.out
              have hms62_1 := NB157_130.out
              have hs64 := kc BK157 1 rfl
              have hfs64 := blk_frozen BK157.out 1
              have hns64_0 := NB101_157.out
              have hns64_1 := NB130_157.out
              have hms64_0 := NB157_101.out
              have hms64_1 := NB157_130.out
              have hs66 := kc BK157 2 rfl
              have hfs66 := blk_frozen BK157.out 2
              have hns66_0 := NB101_157.out
              have hns66_1 := NB130_157.out
              have hms66_0 := NB157_101.out
              have hms66_1 := NB157_130.out
              have hs68 := kc BK157 3 rfl
              have hfs68 := blk_frozen BK157.out 3
              have hns68_0 := NB101_157.out
              have hns68_1 := NB130_157.out
              have hms68_0 := NB157_101.out
              have hms68_1 := NB157_130.out
              have hs70 := kc BK157 4 rfl
              have hfs70 := blk_frozen BK157.out 4
              have hns70_0 := NB101_157.out
              have hns70_1 := NB130_157.out
              have hms70_0 := NB157_101.out
              have hms70_1 := NB157_130.out
              refine skip_ (w1 := ?_) (by rfl) rfl ?_ ?_
              rotate_left
              ·
               go_simp
               rfl
              refine hK.out _ _ ⟨(Sq.cf5 NB130_157 hHeld.1), (Sq.cf5 NB130_157 hHeld.2.1), (Sq.cf5 NB130_157 hHeld.2.2.1), (Sq.cf5 NB130_157 hHeld.2.2.2.1), (Sq.cf5 NB130_157 hHeld.2.2.2.2.1), (Sq.cf5 NB130_157 hHeld.2.2.2.2.2.1), (Sq.cf5 NB130_157 hHeld.2.2.2.2.2.2)⟩ (fun hHeld => ?_)
              clear hK K
              refine Sq.pu 13 (some 15) (bm 14 16383) HT_ ?_
              refine done_ (done_of HT_.out (by kernel_rfl)) ?_
              try go_wp2
              obtain ⟨w71, hw_⟩ : ∃ x, x = (((((w60.setCell ⟨gb157, 0, none⟩ (.slice Ao61 t141.length co61)).setCell ⟨gb157, 1, none⟩ (.slice Ao63 t144.length co63)).setCell ⟨gb157, 2, none⟩ (.slice Ao65 t147.length co65)).setCell ⟨gb157, 3, none⟩ (.slice Ao67 t150.length co67)).setCell ⟨gb157, 4, none⟩ (.slice Ao69 t153.length co69)) := ⟨_, rfl⟩
              have n0_ : Aside0 (Kd.R k56 56 w71 w.heap.size (fun k_ => some k_ ≠ (.slice Ao61 t141.length co61 : Value).ownBlock) (.slice Ao15 t103.length co15) t103) := ⟨by rw [hw_]; (with_reducible repeat (first | apply Kd.R_alloc | apply Kd.R_drewN | apply Kd.R_drew)); exact Kd.R_mono (Sq.rf5 HO_102000 BK157) (fun _ hk => hk.1)⟩
              have n1_ : Aside0 (Kd.R k54 54 w71 w.heap.size (fun k_ => some k_ ≠ (.slice Ao63 t144.length co63 : Value).ownBlock) (.slice Ao17 t106.length co17) t106) := ⟨by rw [hw_]; (with_reducible repeat (first | apply Kd.R_alloc | apply Kd.R_drewN | apply Kd.R_drew)); exact Kd.R_mono (Sq.rf5 HO_102001 BK157) (fun _ hk => hk.1)⟩
              have n2_ : Aside0 (Kd.R k67 67 w71 w.heap.size (fun k_ => some k_ ≠ (.slice Ao65 t147.length co65 : Value).ownBlock) (.slice Ao18 t109.length co18) t109) := ⟨by rw [hw_]; (with_reducible repeat (first | apply Kd.R_alloc | apply Kd.R_drewN | apply Kd.R_drew)); exact Kd.R_mono (Sq.rf5 HO_102002 BK157) (fun _ hk => hk.1)⟩
              have n3_ : Aside0 (Kd.R Kd.bool 4 w71 w.heap.size (fun k_ => some k_ ≠ (.slice Ao20 t115.length co20 : Value).ownBlock ∧ some k_ ≠ (.slice Ao67 t150.length co67 : Value).ownBlock ∧ some k_ ≠ (.slice Ao69 t153.length co69 : Value).ownBlock) (.slice Ao19 t112.length co19) t112) := ⟨by rw [hw_]; (with_reducible repeat (first | apply Kd.R_alloc | apply Kd.R_drewN | apply Kd.R_drew)); exact Kd.R_mono (Sq.rf5 HO_102003 BK157) (fun _ hk => ⟨hk.1.2.2, ⟨hk.1.1, hk.1.2.1⟩⟩)⟩
              have n4_ : Aside0 (Kd.R Kd.bool 4 w71 w.heap.size (fun k_ => some k_ ≠ (.slice Ao19 t112.length co19 : Value).ownBlock ∧ some k_ ≠ (.slice Ao67 t150.length co67 : Value).ownBlock ∧ some k_ ≠ (.slice Ao69 t153.length co69 : Value).ownBlock) (.slice Ao20 t115.length co20) t115) := ⟨by rw [hw_]; (with_reducible repeat (first | apply Kd.R_alloc | apply Kd.R_drewN | apply Kd.R_drew)); exact Kd.R_mono (Sq.rf5 HO_102004 BK157) (fun _ hk => ⟨hk.1.2.2, ⟨hk.1.1, hk.1.2.1⟩⟩)⟩
              have n5_ : Aside0 (Kd.R (Kd.int .u8) 5 w71 w.heap.size (fun k_ => some k_ ≠ (v139 : Value).ownBlock) (.slice Ao50 t119.length co50) t119) := ⟨by rw [hw_]; (with_reducible repeat (first | apply Kd.R_alloc | apply Kd.R_drewN | apply Kd.R_drew)); exact Kd.R_mono (Sq.rf5 HO121 BK157) (fun _ hk => hk.1)⟩
              have n6_ : Aside0 (Kd.R (Kd.int .u8) 5 w71 w.heap.size (fun k_ => some k_ ≠ (.slice Ao50 t119.length co50 : Value).ownBlock) v139 y138) := ⟨by rw [hw_]; (with_reducible repeat (first | apply Kd.R_alloc | apply Kd.R_drewN | apply Kd.R_drew)); exact Kd.R_mono (Sq.rf5 HO140 BK157) (fun _ hk => hk.1)⟩
              have n7_ : Aside0 (Kd.R k56 56 w71 w.heap.size (fun k_ => some k_ ≠ (.slice Ao15 t103.length co15 : Value).ownBlock) (.slice Ao61 t141.length co61) t141) := ⟨by rw [hw_]; (with_reducible repeat (first | apply Kd.R_alloc | apply Kd.R_drewN | apply Kd.R_drew)); exact Kd.R_mono (Sq.rf5 HO143 BK157) (fun _ hk => hk.1)⟩
              have n8_ : Aside0 (Kd.R k54 54 w71 w.heap.size (fun k_ => some k_ ≠ (.slice Ao17 t106.length co17 : Value).ownBlock) (.slice Ao63 t144.length co63) t144) := ⟨by rw [hw_]; (with_reducible repeat (first | apply Kd.R_alloc | apply Kd.R_drewN | apply Kd.R_drew)); exact Kd.R_mono (Sq.rf5 HO146 BK157) (fun _ hk => hk.1)⟩
              have n9_ : Aside0 (Kd.R k67 67 w71 w.heap.size (fun k_ => some k_ ≠ (.slice Ao18 t109.length co18 : Value).ownBlock) (.slice Ao65 t147.length co65) t147) := ⟨by rw [hw_]; (with_reducible repeat (first | apply Kd.R_alloc | apply Kd.R_drewN | apply Kd.R_drew)); exact Kd.R_mono (Sq.rf5 HO149 BK157) (fun _ hk => hk.1)⟩
              have n10_ : Aside0 (Kd.R Kd.bool 4 w71 w.heap.size (fun k_ => some k_ ≠ (.slice Ao19 t112.length co19 : Value).ownBlock ∧ some k_ ≠ (.slice Ao20 t115.length co20 : Value).ownBlock ∧ some k_ ≠ (.slice Ao69 t153.length co69 : Value).ownBlock) (.slice Ao67 t150.length co67) t150) := ⟨by rw [hw_]; (with_reducible repeat (first | apply Kd.R_alloc | apply Kd.R_drewN | apply Kd.R_drew)); exact Kd.R_mono (Sq.rf5 HO152 BK157) (fun _ hk => ⟨hk.1.2.1, ⟨hk.1.2.2, hk.1.1⟩⟩)⟩
              have n11_ : Aside0 (Kd.R Kd.bool 4 w71 w.heap.size (fun k_ => some k_ ≠ (.slice Ao19 t112.length co19 : Value).ownBlock ∧ some k_ ≠ (.slice Ao20 t115.length co20 : Value).ownBlock ∧ some k_ ≠ (.slice Ao67 t150.length co67 : Value).ownBlock) (.slice Ao69 t153.length co69) t153) := ⟨by rw [hw_]; (with_reducible repeat (first | apply Kd.R_alloc | apply Kd.R_drewN | apply Kd.R_drew)); exact Kd.R_mono (Sq.rf5 HO155 BK157) (fun _ hk => ⟨hk.1.2.1, ⟨hk.1.2.2, hk.1.1⟩⟩)⟩
              have n12_ : Aside0 (w71.heap[gb101]? = some (.cells #[.slice Ao15 t103.length co15, .slice Ao17 t106.length co17, .slice Ao18 t109.length co18, .slice Ao19 t112.length co19, .slice Ao20 t115.length co20] 27 (0, 0))) := ⟨by rw [hw_]; (with_reducible repeat (first | refine blk_drewN ?_ _ | refine blk_drew ?_ | refine blk_alloc ?_ _)); refine blk_far ?_ NB101_157.out _; (with_reducible repeat (first | refine blk_drewN ?_ _ | refine blk_drew ?_ | refine blk_alloc ?_ _)); refine blk_far ?_ NB101_157.out _; (with_reducible repeat (first | refine blk_drewN ?_ _ | refine blk_drew ?_ | refine blk_alloc ?_ _)); refine blk_far ?_ NB101_157.out _; (with_reducible repeat (first | refine blk_drewN ?_ _ | refine blk_drew ?_ | refine blk_alloc ?_ _)); refine blk_far ?_ NB101_157.out _; (with_reducible repeat (first | refine blk_drewN ?_ _ | refine blk_drew ?_ | refine blk_alloc ?_ _)); refine blk_far ?_ NB101_157.out _; (with_reducible repeat (first | refine blk_drewN ?_ _ | refine blk_drew ?_ | refine blk_alloc ?_ _)); exact BK101.out⟩
              have n13_ : Aside0 (w71.heap[gb130]? = some (.cells #[.int .i64 t122, .int .i64 t123, .int .i64 t124, .int .i64 t125, .int .i64 t126, .int .i64 t127, .int .i64 t128] 35 (0, 0))) := ⟨by rw [hw_]; (with_reducible repeat (first | refine blk_drewN ?_ _ | refine blk_drew ?_ | refine blk_alloc ?_ _)); refine blk_far ?_ NB130_157.out _; (with_reducible repeat (first | refine blk_drewN ?_ _ | refine blk_drew ?_ | refine blk_alloc ?_ _)); refine blk_far ?_ NB130_157.out _; (with_reducible repeat (first | refine blk_drewN ?_ _ | refine blk_drew ?_ | refine blk_alloc ?_ _)); refine blk_far ?_ NB130_157.out _; (with_reducible repeat (first | refine blk_drewN ?_ _ | refine blk_drew ?_ | refine blk_alloc ?_ _)); refine blk_far ?_ NB130_157.out _; (with_reducible repeat (first | refine blk_drewN ?_ _ | refine blk_drew ?_ | refine blk_alloc ?_ _)); refine blk_far ?_ NB130_157.out _; (with_reducible repeat (first | refine blk_drewN ?_ _ | refine blk_drew ?_ | refine blk_alloc ?_ _)); exact BK130.out⟩
              have n14_ : Aside0 (w71.heap[gb157]? = some (.cells #[.slice Ao61 t141.length co61, .slice Ao63 t144.length co63, .slice Ao65 t147.length co65, .slice Ao67 t150.length co67, .slice Ao69 t153.length co69] 27 (0, 0))) := ⟨by rw [hw_]; (with_reducible repeat (first | refine blk_drewN ?_ _ | refine blk_drew ?_ | refine blk_alloc ?_ _)); refine blk_put (cs := #[.slice Ao61 t141.length co61, .slice Ao63 t144.length co63, .slice Ao65 t147.length co65, .slice Ao67 t150.length co67, .slice none 0 0]) ?_ 4 _ rfl; (with_reducible repeat (first | refine blk_drewN ?_ _ | refine blk_drew ?_ | refine blk_alloc ?_ _)); refine blk_put (cs := #[.slice Ao61 t141.length co61, .slice Ao63 t144.length co63, .slice Ao65 t147.length co65, .slice none 0 0, .slice none 0 0]) ?_ 3 _ rfl; (with_reducible repeat (first | refine blk_drewN ?_ _ | refine blk_drew ?_ | refine blk_alloc ?_ _)); refine blk_put (cs := #[.slice Ao61 t141.length co61, .slice Ao63 t144.length co63, .slice none 0 0, .slice none 0 0, .slice none 0 0]) ?_ 2 _ rfl; (with_reducible repeat (first | refine blk_drewN ?_ _ | refine blk_drew ?_ | refine blk_alloc ?_ _)); refine blk_put (cs := #[.slice Ao61 t141.length co61, .slice none 0 0, .slice none 0 0, .slice none 0 0, .slice none 0 0]) ?_ 1 _ rfl; (with_reducible repeat (first | refine blk_drewN ?_ _ | refine blk_drew ?_ | refine blk_alloc ?_ _)); refine blk_put (cs := #[.slice none 0 0, .slice none 0 0, .slice none 0 0, .slice none 0 0, .slice none 0 0]) ?_ 0 _ rfl; (with_reducible repeat (first | refine blk_drewN ?_ _ | refine blk_drew ?_ | refine blk_alloc ?_ _)); exact BK157.out⟩
              have n15_ : Aside0 (Below w.heap.size w w71) := ⟨by rw [hw_]; exact Sq.kl3 HB GE101 GE130 GE157⟩
              (try clear HO_102000)
              (try clear HO_102001)
              (try clear HO_102002)
              (try clear HO_102003)
              (try clear HO_102004)
              (try clear HO121)
              (try clear HO140)
              (try clear HO143)
              (try clear HO146)
              (try clear HO149)
              (try clear HO152)
              (try clear HO155)
              (try clear BK101)
              (try clear BK130)
              (try clear BK157)
              (try clear HB)
              rw [← hw_]
              clear hw_
              have HO_102000 := n0_
              have HO_102001 := n1_
              have HO_102002 := n2_
              have HO_102003 := n3_
              have HO_102004 := n4_
              have HO121 := n5_
              have HO140 := n6_
              have HO143 := n7_
              have HO146 := n8_
              have HO149 := n9_
              have HO152 := n10_
              have HO155 := n11_
              have BK101 := n12_
              have BK130 := n13_
              have BK157 := n14_
              have HB := n15_
              clear n0_ n1_ n2_ n3_ n4_ n5_ n6_ n7_ n8_ n9_ n10_ n11_ n12_ n13_ n14_ n15_
              have n0_ := Aside0.mk (Kd.R_drew HO_102000.out)
              have n1_ := Aside0.mk (Kd.R_drew HO_102001.out)
              have n2_ := Aside0.mk (Kd.R_drew HO_102002.out)
              have n3_ := Aside0.mk (Kd.R_drew HO_102003.out)
              have n4_ := Aside0.mk (Kd.R_drew HO_102004.out)
              have n5_ := Aside0.mk (Kd.R_drew HO121.out)
              have n6_ := Aside0.mk (Kd.R_drew HO140.out)
              have n7_ := Aside0.mk (Kd.R_drew HO143.out)
              have n8_ := Aside0.mk (Kd.R_drew HO146.out)
              have n9_ := Aside0.mk (Kd.R_drew HO149.out)
              have n10_ := Aside0.mk (Kd.R_drew HO152.out)
              have n11_ := Aside0.mk (Kd.R_drew HO155.out)
              have n12_ := Aside0.mk (blk_drew BK101.out)
              have n13_ := Aside0.mk (blk_drew BK130.out)
              have n14_ := Aside0.mk (blk_drew BK157.out)
              have n15_ := Aside0.mk (below_drew1 HB.out)
              clear HO_102000
              clear HO_102001
              clear HO_102002
              clear HO_102003
              clear HO_102004
              clear HO121
              clear HO140
              clear HO143
              clear HO146
              clear HO149
              clear HO152
              clear HO155
              clear BK101
              clear BK130
              clear BK157
              clear HB
              have HO_102000 := n0_
              have HO_102001 := n1_
              have HO_102002 := n2_
              have HO_102003 := n3_
              have HO_102004 := n4_
              have HO121 := n5_
              have HO140 := n6_
              have HO143 := n7_
              have HO146 := n8_
              have HO149 := n9_
              have HO152 := n10_
              have HO155 := n11_
              have BK101 := n12_
              have BK130 := n13_
              have BK157 := n14_
              have HB := n15_
              clear n0_ n1_ n2_ n3_ n4_ n5_ n6_ n7_ n8_ n9_ n10_ n11_ n12_ n13_ n14_ n15_
              have q73 : ((ji35) : Int) ≤ ((t119.length : Int) : Int) := of_decide_eq_true (by first | (with_reducible assumption) | assumption)
              obtain ⟨i073, hi073, _, hsz73, _⟩ := info_parts info5
              have hroom73 : t119.length ≤ co50 := (Kd.R_reads' HO121.out).2.1
              have hC73 : Kd.C (Kd.int .u8) _ Ao50 t119.length t119 := (Kd.R_reads' HO121.out).2.2
              have hcut73 := cut_to (P := Try.prog) 33 5 .i64 Try.underlying33 hi073 Ao50 t119.length co50 (ji35) (of_decide_eq_true (by first | (with_reducible assumption) | assumption)) q73 hroom73
              have hr73 := Kd.C_take (m := ((ji35) : Int).toNat) hC73 (by omega)
              have hy73 : y158.length = ((ji35) : Int).toNat := (by rw [Ny158.out, List.length_take]; omega)
              rw [← Ny158.out] at hr73
              rw [← hy73] at hcut73
              have HR161 := Aside0.mk hr73
              have HC161 := Aside0.mk (show y158.length ≤ co50 from by omega)
              clear hr73 hC73 hroom73 hi073 hsz73
              have KY73 := Aside0.mk hy73
              clear hy73
              have KL73 := Aside0.mk (show ((ji35) : Int).toNat ≤ t119.length from by omega)
              replace q73 := eq_true q73
              refine start_ (n := 14) (S := fun w' => w'.cell? ⟨gb130, 0, none⟩ = some (.int .i64 t122) ∧ w'.cell? ⟨gb130, 1, none⟩ = some (.int .i64 t123) ∧ w'.cell? ⟨gb130, 2, none⟩ = some (.int .i64 t124) ∧ w'.cell? ⟨gb130, 3, none⟩ = some (.int .i64 t125) ∧ w'.cell? ⟨gb130, 4, none⟩ = some (.int .i64 t126) ∧ w'.cell? ⟨gb130, 5, none⟩ = some (.int .i64 t127) ∧ w'.cell? ⟨gb130, 6, none⟩ = some (.int .i64 t128)) (ds := []) #[false, false, false, false, false, false, false, false, false, false, false, false, false, false] (by kernel_rfl) rfl rfl ⟨(blk_cell BK130.out 0).trans rfl, (blk_cell BK130.out 1).trans rfl, (blk_cell BK130.out 2).trans rfl, (blk_cell BK130.out 3).trans rfl, (blk_cell BK130.out 4).trans rfl, (blk_cell BK130.out 5).trans rfl, (blk_cell BK130.out 6).trans rfl⟩ (fun hHeld => ?_); refine with_tabW longcaselaw06_BlockBack.tab14 longcaselaw06_BlockBack.bits14 (fun HT_ HW_ => ?_)
              generalize w71.drew = w72 at HO_102000 HO_102001 HO_102002 HO_102003 HO_102004 HO121 HO140 HO143 HO146 HO149 HO152 HO155 BK101 BK130 BK157 HB HR161 hHeld ⊢
              refine Sq.pu 0 (some 63) (bm 14 1) HT_ ?_
              refine Sq.pu 1 (some 64) (bm 14 3) HT_ ?_
              refine Sq.pu 2 (some 65) (bm 14 7) HT_ ?_
              refine Sq.pu 3 (some 66) (bm 14 15) HT_ ?_
              refine Sq.pu 4 (some 67) (bm 14 31) HT_ ?_
              refine Sq.pu 6 (some 69) (bm 14 95) HT_ ?_
              refine Sq.tk 5 (some 68) (bm 14 127) HT_ HW_ hHeld ?_
              refine join_ (σ := Value × Value × Value × Value × Value × Nat) 2 #[true, true, true, true, true, true, true, true, true, true, true, true, false, false] (fun s_ => [(70, .tuple #[.agg #[s_.1, s_.2.1, s_.2.2.1, s_.2.2.2.1, s_.2.2.2.2.1], .int .i64 t177]), (16, .pointer (some ⟨s_.2.2.2.2.2, 0, none⟩)), (62, .tuple #[.agg #[s_.1, s_.2.1, s_.2.2.1, s_.2.2.2.1, s_.2.2.2.2.1], .int .i64 t177]), (71, .agg #[s_.1, s_.2.1, s_.2.2.1, s_.2.2.2.1, s_.2.2.2.2.1]), (72, .int .i64 t177)]) (fun s_ w' => (w'.cell? ⟨gb130, 0, none⟩ = some (.int .i64 t122) ∧ w'.cell? ⟨gb130, 1, none⟩ = some (.int .i64 t123) ∧ w'.cell? ⟨gb130, 2, none⟩ = some (.int .i64 t124) ∧ w'.cell? ⟨gb130, 3, none⟩ = some (.int .i64 t125) ∧ w'.cell? ⟨gb130, 4, none⟩ = some (.int .i64 t126) ∧ w'.cell? ⟨gb130, 5, none⟩ = some (.int .i64 t127) ∧ w'.cell? ⟨gb130, 6, none⟩ = some (.int .i64 t128)) ∧ (Kd.R (Kd.int .u8) 5 w' w.heap.size (fun k_ => some k_ ≠ (v139 : Value).ownBlock) (.slice Ao50 t119.length co50) t119) ∧ (Kd.R (Kd.int .u8) 5 w' w.heap.size (fun k_ => some k_ ≠ (.slice Ao50 t119.length co50 : Value).ownBlock) v139 y138) ∧ (Kd.R k56 56 w' w.heap.size (fun k_ => some k_ ≠ (s_.1 : Value).ownBlock ∧ some k_ ≠ (.slice Ao15 t103.length co15 : Value).ownBlock) (.slice Ao61 t141.length co61) t141) ∧ (Kd.R k54 54 w' w.heap.size (fun k_ => some k_ ≠ (s_.2.1 : Value).ownBlock ∧ some k_ ≠ (.slice Ao17 t106.length co17 : Value).ownBlock) (.slice Ao63 t144.length co63) t144) ∧ (Kd.R k67 67 w' w.heap.size (fun k_ => some k_ ≠ (s_.2.2.1 : Value).ownBlock ∧ some k_ ≠ (.slice Ao18 t109.length co18 : Value).ownBlock) (.slice Ao65 t147.length co65) t147) ∧ (Kd.R Kd.bool 4 w' w.heap.size (fun k_ => some k_ ≠ (.slice Ao69 t153.length co69 : Value).ownBlock ∧ some k_ ≠ (s_.2.2.2.1 : Value).ownBlock ∧ some k_ ≠ (s_.2.2.2.2.1 : Value).ownBlock ∧ some k_ ≠ (.slice Ao19 t112.length co19 : Value).ownBlock ∧ some k_ ≠ (.slice Ao20 t115.length co20 : Value).ownBlock) (.slice Ao67 t150.length co67) t150) ∧ (Kd.R Kd.bool 4 w' w.heap.size (fun k_ => some k_ ≠ (.slice Ao67 t150.length co67 : Value).ownBlock ∧ some k_ ≠ (s_.2.2.2.1 : Value).ownBlock ∧ some k_ ≠ (s_.2.2.2.2.1 : Value).ownBlock ∧ some k_ ≠ (.slice Ao19 t112.length co19 : Value).ownBlock ∧ some k_ ≠ (.slice Ao20 t115.length co20 : Value).ownBlock) (.slice Ao69 t153.length co69) t153) ∧ (Kd.R k56 56 w' w.heap.size (fun k_ => some k_ ≠ (.slice Ao61 t141.length co61 : Value).ownBlock ∧ some k_ ≠ (.slice Ao15 t103.length co15 : Value).ownBlock) s_.1 t162) ∧ (Kd.R k54 54 w' w.heap.size (fun k_ => some k_ ≠ (.slice Ao63 t144.length co63 : Value).ownBlock ∧ some k_ ≠ (.slice Ao17 t106.length co17 : Value).ownBlock) s_.2.1 t165) ∧ (Kd.R k67 67 w' w.heap.size (fun k_ => some k_ ≠ (.slice Ao65 t147.length co65 : Value).ownBlock ∧ some k_ ≠ (.slice Ao18 t109.length co18 : Value).ownBlock) s_.2.2.1 t168) ∧ (Kd.R Kd.bool 4 w' w.heap.size (fun k_ => some k_ ≠ (.slice Ao67 t150.length co67 : Value).ownBlock ∧ some k_ ≠ (.slice Ao69 t153.length co69 : Value).ownBlock ∧ some k_ ≠ (s_.2.2.2.2.1 : Value).ownBlock ∧ some k_ ≠ (.slice Ao19 t112.length co19 : Value).ownBlock ∧ some k_ ≠ (.slice Ao20 t115.length co20 : Value).ownBlock) s_.2.2.2.1 t171) ∧ (Kd.R Kd.bool 4 w' w.heap.size (fun k_ => some k_ ≠ (.slice Ao67 t150.length co67 : Value).ownBlock ∧ some k_ ≠ (.slice Ao69 t153.length co69 : Value).ownBlock ∧ some k_ ≠ (s_.2.2.2.1 : Value).ownBlock ∧ some k_ ≠ (.slice Ao19 t112.length co19 : Value).ownBlock ∧ some k_ ≠ (.slice Ao20 t115.length co20 : Value).ownBlock) s_.2.2.2.2.1 t174) ∧ (Kd.R k56 56 w' w.heap.size (fun k_ => some k_ ≠ (.slice Ao61 t141.length co61 : Value).ownBlock ∧ some k_ ≠ (s_.1 : Value).ownBlock) (.slice Ao15 t103.length co15) t103) ∧ (Kd.R k54 54 w' w.heap.size (fun k_ => some k_ ≠ (.slice Ao63 t144.length co63 : Value).ownBlock ∧ some k_ ≠ (s_.2.1 : Value).ownBlock) (.slice Ao17 t106.length co17) t106) ∧ (Kd.R k67 67 w' w.heap.size (fun k_ => some k_ ≠ (.slice Ao65 t147.length co65 : Value).ownBlock ∧ some k_ ≠ (s_.2.2.1 : Value).ownBlock) (.slice Ao18 t109.length co18) t109) ∧ (Kd.R Kd.bool 4 w' w.heap.size (fun k_ => some k_ ≠ (.slice Ao67 t150.length co67 : Value).ownBlock ∧ some k_ ≠ (.slice Ao69 t153.length co69 : Value).ownBlock ∧ some k_ ≠ (s_.2.2.2.1 : Value).ownBlock ∧ some k_ ≠ (s_.2.2.2.2.1 : Value).ownBlock ∧ some k_ ≠ (.slice Ao20 t115.length co20 : Value).ownBlock) (.slice Ao19 t112.length co19) t112) ∧ (Kd.R Kd.bool 4 w' w.heap.size (fun k_ => some k_ ≠ (.slice Ao67 t150.length co67 : Value).ownBlock ∧ some k_ ≠ (.slice Ao69 t153.length co69 : Value).ownBlock ∧ some k_ ≠ (s_.2.2.2.1 : Value).ownBlock ∧ some k_ ≠ (s_.2.2.2.2.1 : Value).ownBlock ∧ some k_ ≠ (.slice Ao19 t112.length co19 : Value).ownBlock) (.slice Ao20 t115.length co20) t115) ∧ (w'.heap[gb101]? = some (.cells #[.slice Ao15 t103.length co15, .slice Ao17 t106.length co17, .slice Ao18 t109.length co18, .slice Ao19 t112.length co19, .slice Ao20 t115.length co20] 27 (0, 0))) ∧ (w'.heap[gb130]? = some (.cells #[.int .i64 t122, .int .i64 t123, .int .i64 t124, .int .i64 t125, .int .i64 t126, .int .i64 t127, .int .i64 t128] 35 (0, 0))) ∧ (w'.heap[gb157]? = some (.cells #[.slice Ao61 t141.length co61, .slice Ao63 t144.length co63, .slice Ao65 t147.length co65, .slice Ao67 t150.length co67, .slice Ao69 t153.length co69] 27 (0, 0))) ∧ (w'.heap[s_.2.2.2.2.2]? = some (.cells #[.slice none 0 0, .slice none 0 0, .slice none 0 0, .slice none 0 0, .slice none 0 0] 27 (0, 0))) ∧ (w.heap.size ≤ s_.2.2.2.2.2) ∧ (w.heap.size ≤ s_.2.2.2.2.2) ∧ (gb101 ≠ s_.2.2.2.2.2) ∧ (s_.2.2.2.2.2 ≠ gb101) ∧ (gb130 ≠ s_.2.2.2.2.2) ∧ (s_.2.2.2.2.2 ≠ gb130) ∧ (gb157 ≠ s_.2.2.2.2.2) ∧ (s_.2.2.2.2.2 ≠ gb157) ∧ (Below w.heap.size w w')) ?_ ?_
              rotate_left
              ·
               intro hCont
               refine two_ (i := 7) (j := 11) (Ni := some 70) (Nj := some 16) (bm 14 255) (bm 14 2175) rfl rfl rfl rfl (two_of HT_.out (by kernel_rfl)) (by decide) (by decide) (fun K hK => ?_) (fun K hK => ?_)
               ·
                skip
                refine goes_ Try.func21 (by kernel_rfl) rfl #[.slice Ao50 y158.length co50, .agg #[.int .i64 t122, .int .i64 t123, .int .i64 t124, .int .i64 t125, .int .i64 t126, .int .i64 t127, .int .i64 t128], .int .i64 x10_9] (by rfl) rfl rfl (by (try simp only [List.map_toArray, List.map_cons, List.map_nil]); first | done | rfl | (simp only [List.length_drop, List.length_take]; rfl)) ?_
                with_reducible refine (block_Decode.calls _ _ y158 t122 t123 t124 t125 t126 t127 t128 x10_9 t162 t165 t168 t171 t174 t177 _ ?side1 ?side2 A38.out).mono ?_
                (case side1 => repeat (first | exact (by repeat (first | (with_reducible exact HR161.out) | (with_reducible refine Kd.C_alloc ?_ _) | (with_reducible refine Kd.C_drewN ?_ _) | (with_reducible refine Kd.C_drew ?_) | exact HR161.out)) | (with_reducible refine Kd.C_alloc ?_ _) | (with_reducible refine Kd.C_drewN ?_ _) | (with_reducible refine Kd.C_drew ?_)))
                (case side2 => exact HC161.out)
                rintro e w74 ⟨v163, v166, v169, v172, v175, rfl, ho0, ho1, ho2, ho3, ho4, hb⟩
                refine ⟨_, rfl, ?_⟩
                have n0_ := Aside0.mk (Kd.R_elder' (kr HO_102000) (Kd.R_base ho0) hb)
                have n1_ := Aside0.mk (Kd.R_elder' (kr HO_102001) (Kd.R_base ho1) hb)
                have n2_ := Aside0.mk (Kd.R_elder' (kr HO_102002) (Kd.R_base ho2) hb)
                have n3_ := Aside0.mk (Kd.R_mono (Kd.R_told (Kd.R_told (Kd.R_old (kr HO_102003) hb) (Kd.R_base ho3)) (Kd.R_base ho4)) (fun _ h_ => h_.1))
                have n4_ := Aside0.mk (Kd.R_mono (Kd.R_told (Kd.R_told (Kd.R_old (kr HO_102004) hb) (Kd.R_base ho3)) (Kd.R_base ho4)) (fun _ h_ => h_.1))
                have n5_ := krb HO121 hb
                have n6_ := krb HO140 hb
                have n7_ := Aside0.mk (Kd.R_elder' (kr HO143) (Kd.R_base ho0) hb)
                have n8_ := Aside0.mk (Kd.R_elder' (kr HO146) (Kd.R_base ho1) hb)
                have n9_ := Aside0.mk (Kd.R_elder' (kr HO149) (Kd.R_base ho2) hb)
                have n10_ := Aside0.mk (Kd.R_mono (Kd.R_told (Kd.R_told (Kd.R_old (kr HO152) hb) (Kd.R_base ho3)) (Kd.R_base ho4)) (fun _ h_ => h_.1))
                have n11_ := Aside0.mk (Kd.R_mono (Kd.R_told (Kd.R_told (Kd.R_old (kr HO155) hb) (Kd.R_base ho3)) (Kd.R_base ho4)) (fun _ h_ => h_.1))
                have n12_ := Aside0.mk (Kd.R_lower (Kd.R_new' (Kd.R_new' ho0 (Kd.R_lt (kr HO_102000))) (Kd.R_lt (kr HO143))) (below_size (Sq.kl3 HB GE101 GE130 GE157)))
                have n13_ := Aside0.mk (Kd.R_lower (Kd.R_new' (Kd.R_new' ho1 (Kd.R_lt (kr HO_102001))) (Kd.R_lt (kr HO146))) (below_size (Sq.kl3 HB GE101 GE130 GE157)))
                have n14_ := Aside0.mk (Kd.R_lower (Kd.R_new' (Kd.R_new' ho2 (Kd.R_lt (kr HO_102002))) (Kd.R_lt (kr HO149))) (below_size (Sq.kl3 HB GE101 GE130 GE157)))
                have n15_ := Aside0.mk (Kd.R_lower (Kd.R_new' (Kd.R_new' (Kd.R_new' (Kd.R_new' ho3 (Kd.R_lt (kr HO_102003))) (Kd.R_lt (kr HO_102004))) (Kd.R_lt (kr HO152))) (Kd.R_lt (kr HO155))) (below_size (Sq.kl3 HB GE101 GE130 GE157)))
                have n16_ := Aside0.mk (Kd.R_lower (Kd.R_new' (Kd.R_new' (Kd.R_new' (Kd.R_new' ho4 (Kd.R_lt (kr HO_102003))) (Kd.R_lt (kr HO_102004))) (Kd.R_lt (kr HO152))) (Kd.R_lt (kr HO155))) (below_size (Sq.kl3 HB GE101 GE130 GE157)))
                have n17_ := kbb BK101 hb
                have n18_ := kbb BK130 hb
                have n19_ := kbb BK157 hb
                have n20_ := Aside0.mk (Kd.C_below (by repeat (first | (with_reducible exact HR161.out) | (with_reducible refine Kd.C_alloc ?_ _) | (with_reducible refine Kd.C_drewN ?_ _) | (with_reducible refine Kd.C_drew ?_) | exact HR161.out)) hb)
                have n21_ := Aside0.mk (below_step (Sq.kl3 HB GE101 GE130 GE157) hb)
                clear HO_102000
                clear HO_102001
                clear HO_102002
                clear HO_102003
                clear HO_102004
                clear HO121
                clear HO140
                clear HO143
                clear HO146
                clear HO149
                clear HO152
                clear HO155
                clear BK101
                clear BK130
                clear BK157
                clear HR161
                clear HB
                have HO_102000 := n0_
                have HO_102001 := n1_
                have HO_102002 := n2_
                have HO_102003 := n3_
                have HO_102004 := n4_
                have HO121 := n5_
                have HO140 := n6_
                have HO143 := n7_
                have HO146 := n8_
                have HO149 := n9_
                have HO152 := n10_
                have HO155 := n11_
                have HO164 := n12_
                have HO167 := n13_
                have HO170 := n14_
                have HO173 := n15_
                have HO176 := n16_
                have BK101 := n17_
                have BK130 := n18_
                have BK157 := n19_
                have HR161 := n20_
                have HB := n21_
                clear n0_ n1_ n2_ n3_ n4_ n5_ n6_ n7_ n8_ n9_ n10_ n11_ n12_ n13_ n14_ n15_ n16_ n17_ n18_ n19_ n20_ n21_
                (try clear hb)
                (try clear hb2)
                (try clear hk)
                (try clear hi)
                (try clear ho0)
                (try clear ho1)
                (try clear ho2)
                (try clear ho3)
                (try clear ho4)
                refine hK.out _ _ ⟨(blk_cell BK130.out 0).trans rfl, (blk_cell BK130.out 1).trans rfl, (blk_cell BK130.out 2).trans rfl, (blk_cell BK130.out 3).trans rfl, (blk_cell BK130.out 4).trans rfl, (blk_cell BK130.out 5).trans rfl, (blk_cell BK130.out 6).trans rfl⟩ (fun hHeld => ?_)
                clear hK K
                refine norm_ (a' := ?_) ?_ ?_
                rotate_left
                ·
                 show Act.put _ (some 70) _ = _
                 simp only [Act.put, List.setIfInBounds_toArray, List.set_cons_zero, List.set_cons_succ, i64_w, i32_w]
                 rfl
                refine Sq.pu 8 (some 62) (bm 14 511) HT_ ?_
                refine Sq.pu 9 (some 71) (bm 14 1023) HT_ ?_
                refine Sq.pu 10 (some 72) (bm 14 2047) HT_ ?_
                refine one_ (i := 11) (N := some 16) (bm 14 4095) rfl rfl (one_of HT_.out (by kernel_rfl)) (by decide) (fun K hK => ?_)
                refine box_step ?hg (N := 16) ?hd (cs := #[.slice none 0 0, .slice none 0 0, .slice none 0 0, .slice none 0 0, .slice none 0 0]) (t := 27) ?hr ?_; (case hd => rfl); (case hg => rfl); (case hr => first | (go_simp; done) | (go_simp; rfl))
                intro gb178 hg w75 hbox hb
                have n0_ := krb HO_102000 hb
                have n1_ := krb HO_102001 hb
                have n2_ := krb HO_102002 hb
                have n3_ := krb HO_102003 hb
                have n4_ := krb HO_102004 hb
                have n5_ := krb HO121 hb
                have n6_ := krb HO140 hb
                have n7_ := krb HO143 hb
                have n8_ := krb HO146 hb
                have n9_ := krb HO149 hb
                have n10_ := krb HO152 hb
                have n11_ := krb HO155 hb
                have n12_ := krb HO164 hb
                have n13_ := krb HO167 hb
                have n14_ := krb HO170 hb
                have n15_ := krb HO173 hb
                have n16_ := krb HO176 hb
                have n17_ := kbb BK101 hb
                have n18_ := kbb BK130 hb
                have n19_ := kbb BK157 hb
                have n20_ := Aside0.mk (Kd.C_below (by repeat (first | (with_reducible exact HR161.out) | (with_reducible refine Kd.C_alloc ?_ _) | (with_reducible refine Kd.C_drewN ?_ _) | (with_reducible refine Kd.C_drew ?_) | exact HR161.out)) hb)
                have n21_ := Aside0.mk (below_step (Sq.kl3 HB GE101 GE130 GE157) hb)
                have n22_ := Aside0.mk (hbox)
                have n23_ := Aside0.mk ((by rw [hg]; exact (below_size (Sq.kl3 HB GE101 GE130 GE157)) : w.heap.size ≤ gb178))
                have n24_ := Aside0.mk ((by rw [hg]; exact (below_size (Sq.kl3 HB GE101 GE130 GE157)) : w.heap.size ≤ gb178))
                have n25_ := Aside0.mk ((by rw [hg]; exact Nat.ne_of_lt (blk_lt (kb BK101)) : gb101 ≠ gb178))
                have n26_ := Aside0.mk ((by rw [hg]; exact Nat.ne_of_gt (blk_lt (kb BK101)) : gb178 ≠ gb101))
                have n27_ := Aside0.mk ((by rw [hg]; exact Nat.ne_of_lt (blk_lt (kb BK130)) : gb130 ≠ gb178))
                have n28_ := Aside0.mk ((by rw [hg]; exact Nat.ne_of_gt (blk_lt (kb BK130)) : gb178 ≠ gb130))
                have n29_ := Aside0.mk ((by rw [hg]; exact Nat.ne_of_lt (blk_lt (kb BK157)) : gb157 ≠ gb178))
                have n30_ := Aside0.mk ((by rw [hg]; exact Nat.ne_of_gt (blk_lt (kb BK157)) : gb178 ≠ gb157))
                clear HO_102000
                clear HO_102001
                clear HO_102002
                clear HO_102003
                clear HO_102004
                clear HO121
                clear HO140
                clear HO143
                clear HO146
                clear HO149
                clear HO152
                clear HO155
                clear HO164
                clear HO167
                clear HO170
                clear HO173
                clear HO176
                clear BK101
                clear BK130
                clear BK157
                clear HR161
                clear HB
                have HO_102000 := n0_
                have HO_102001 := n1_
                have HO_102002 := n2_
                have HO_102003 := n3_
                have HO_102004 := n4_
                have HO121 := n5_
                have HO140 := n6_
                have HO143 := n7_
                have HO146 := n8_
                have HO149 := n9_
                have HO152 := n10_
                have HO155 := n11_
                have HO164 := n12_
                have HO167 := n13_
                have HO170 := n14_
                have HO173 := n15_
                have HO176 := n16_
                have BK101 := n17_
                have BK130 := n18_
                have BK157 := n19_
                have HR161 := n20_
                have HB := n21_
                have BK178 := n22_
                have GW178 := n23_
                have GE178 := n24_
                have NB101_178 := n25_
                have NB178_101 := n26_
                have NB130_178 := n27_
                have NB178_130 := n28_
                have NB157_178 := n29_
                have NB178_157 := n30_
                clear n0_ n1_ n2_ n3_ n4_ n5_ n6_ n7_ n8_ n9_ n10_ n11_ n12_ n13_ n14_ n15_ n16_ n17_ n18_ n19_ n20_ n21_ n22_ n23_ n24_ n25_ n26_ n27_ n28_ n29_ n30_
                clear hb hbox hg
                refine hK.out _ _ ⟨(blk_cell BK130.out 0).trans rfl, (blk_cell BK130.out 1).trans rfl, (blk_cell BK130.out 2).trans rfl, (blk_cell BK130.out 3).trans rfl, (blk_cell BK130.out 4).trans rfl, (blk_cell BK130.out 5).trans rfl, (blk_cell BK130.out 6).trans rfl⟩ (fun hHeld => ?_)
                clear hK K
                refine norm_ (a' := ?_) ?_ ?_
                rotate_left
                ·
                 show Act.put _ (some 16) _ = _
                 simp only [Act.put, List.setIfInBounds_toArray, List.set_cons_zero, List.set_cons_succ, i64_w, i32_w]
                 rfl
                exact norm_ (by simp only [putAll, Act.put, List.setIfInBounds_toArray, List.set_cons_zero, List.set_cons_succ]) (hCont (v163, v166, v169, v172, v175, gb178) _ ⟨hHeld, (kr HO121), (kr HO140), (by (with_reducible repeat (first | apply Kd.R_alloc | apply Kd.R_drewN | apply Kd.R_drew)); exact Kd.R_mono HO143.out (fun _ hk => ⟨hk.2, hk.1⟩)), (by (with_reducible repeat (first | apply Kd.R_alloc | apply Kd.R_drewN | apply Kd.R_drew)); exact Kd.R_mono HO146.out (fun _ hk => ⟨hk.2, hk.1⟩)), (by (with_reducible repeat (first | apply Kd.R_alloc | apply Kd.R_drewN | apply Kd.R_drew)); exact Kd.R_mono HO149.out (fun _ hk => ⟨hk.2, hk.1⟩)), (by (with_reducible repeat (first | apply Kd.R_alloc | apply Kd.R_drewN | apply Kd.R_drew)); exact Kd.R_mono HO152.out (fun _ hk => ⟨hk.1.1.2.2, ⟨hk.1.2, ⟨hk.2, ⟨hk.1.1.1, hk.1.1.2.1⟩⟩⟩⟩)), (by (with_reducible repeat (first | apply Kd.R_alloc | apply Kd.R_drewN | apply Kd.R_drew)); exact Kd.R_mono HO155.out (fun _ hk => ⟨hk.1.1.2.2, ⟨hk.1.2, ⟨hk.2, ⟨hk.1.1.1, hk.1.1.2.1⟩⟩⟩⟩)), (by (with_reducible repeat (first | apply Kd.R_alloc | apply Kd.R_drewN | apply Kd.R_drew)); exact Kd.R_mono HO164.out (fun _ hk => ⟨hk.2, hk.1.2⟩)), (by (with_reducible repeat (first | apply Kd.R_alloc | apply Kd.R_drewN | apply Kd.R_drew)); exact Kd.R_mono HO167.out (fun _ hk => ⟨hk.2, hk.1.2⟩)), (by (with_reducible repeat (first | apply Kd.R_alloc | apply Kd.R_drewN | apply Kd.R_drew)); exact Kd.R_mono HO170.out (fun _ hk => ⟨hk.2, hk.1.2⟩)), (by (with_reducible repeat (first | apply Kd.R_alloc | apply Kd.R_drewN | apply Kd.R_drew)); exact Kd.R_mono HO173.out (fun _ hk => ⟨hk.1.2, ⟨hk.2, ⟨hk.1.1.1.1, ⟨hk.1.1.1.2, hk.1.1.2⟩⟩⟩⟩)), (by (with_reducible repeat (first | apply Kd.R_alloc | apply Kd.R_drewN | apply Kd.R_drew)); exact Kd.R_mono HO176.out (fun _ hk => ⟨hk.1.2, ⟨hk.2, ⟨hk.1.1.1.1, ⟨hk.1.1.1.2, hk.1.1.2⟩⟩⟩⟩)), (kr HO_102000), (kr HO_102001), (kr HO_102002), (by (with_reducible repeat (first | apply Kd.R_alloc | apply Kd.R_drewN | apply Kd.R_drew)); exact Kd.R_mono HO_102003.out (fun _ hk => ⟨hk.1.1.2.1, ⟨hk.1.1.2.2, ⟨hk.1.2, ⟨hk.2, hk.1.1.1⟩⟩⟩⟩)), (by (with_reducible repeat (first | apply Kd.R_alloc | apply Kd.R_drewN | apply Kd.R_drew)); exact Kd.R_mono HO_102004.out (fun _ hk => ⟨hk.1.1.2.1, ⟨hk.1.1.2.2, ⟨hk.1.2, ⟨hk.2, hk.1.1.1⟩⟩⟩⟩)), (kb BK101), (kb BK130), (kb BK157), (kb BK178), GW178.out, GE178.out, NB101_178.out, NB178_101.out, NB130_178.out, NB178_130.out, NB157_178.out, NB178_157.out, (Sq.kl4 HB GE101 GE130 GE157 GE178)⟩)
               ·
                skip
                refine box_step ?hg (N := 16) ?hd (cs := #[.slice none 0 0, .slice none 0 0, .slice none 0 0, .slice none 0 0, .slice none 0 0]) (t := 27) ?hr ?_; (case hd => rfl); (case hg => rfl); (case hr => first | (go_simp; done) | (go_simp; rfl))
                intro gb178 hg w74 hbox hb
                have n0_ := krb HO_102000 hb
                have n1_ := krb HO_102001 hb
                have n2_ := krb HO_102002 hb
                have n3_ := krb HO_102003 hb
                have n4_ := krb HO_102004 hb
                have n5_ := krb HO121 hb
                have n6_ := krb HO140 hb
                have n7_ := krb HO143 hb
                have n8_ := krb HO146 hb
                have n9_ := krb HO149 hb
                have n10_ := krb HO152 hb
                have n11_ := krb HO155 hb
                have n12_ := kbb BK101 hb
                have n13_ := kbb BK130 hb
                have n14_ := kbb BK157 hb
                have n15_ := Aside0.mk (Kd.C_below (by repeat (first | (with_reducible exact HR161.out) | (with_reducible refine Kd.C_alloc ?_ _) | (with_reducible refine Kd.C_drewN ?_ _) | (with_reducible refine Kd.C_drew ?_) | exact HR161.out)) hb)
                have n16_ := Aside0.mk (below_step (Sq.kl3 HB GE101 GE130 GE157) hb)
                have n17_ := Aside0.mk (hbox)
                have n18_ := Aside0.mk ((by rw [hg]; exact (below_size (Sq.kl3 HB GE101 GE130 GE157)) : w.heap.size ≤ gb178))
                have n19_ := Aside0.mk ((by rw [hg]; exact (below_size (Sq.kl3 HB GE101 GE130 GE157)) : w.heap.size ≤ gb178))
                have n20_ := Aside0.mk ((by rw [hg]; exact Nat.ne_of_lt (blk_lt (kb BK101)) : gb101 ≠ gb178))
                have n21_ := Aside0.mk ((by rw [hg]; exact Nat.ne_of_gt (blk_lt (kb BK101)) : gb178 ≠ gb101))
                have n22_ := Aside0.mk ((by rw [hg]; exact Nat.ne_of_lt (blk_lt (kb BK130)) : gb130 ≠ gb178))
                have n23_ := Aside0.mk ((by rw [hg]; exact Nat.ne_of_gt (blk_lt (kb BK130)) : gb178 ≠ gb130))
                have n24_ := Aside0.mk ((by rw [hg]; exact Nat.ne_of_lt (blk_lt (kb BK157)) : gb157 ≠ gb178))
                have n25_ := Aside0.mk ((by rw [hg]; exact Nat.ne_of_gt (blk_lt (kb BK157)) : gb178 ≠ gb157))
                clear HO_102000
                clear HO_102001
                clear HO_102002
                clear HO_102003
                clear HO_102004
                clear HO121
                clear HO140
                clear HO143
                clear HO146
                clear HO149
                clear HO152
                clear HO155
                clear BK101
                clear BK130
                clear BK157
                clear HR161
                clear HB
                have HO_102000 := n0_
                have HO_102001 := n1_
                have HO_102002 := n2_
                have HO_102003 := n3_
                have HO_102004 := n4_
                have HO121 := n5_
                have HO140 := n6_
                have HO143 := n7_
                have HO146 := n8_
                have HO149 := n9_
                have HO152 := n10_
                have HO155 := n11_
                have BK101 := n12_
                have BK130 := n13_
                have BK157 := n14_
                have HR161 := n15_
                have HB := n16_
                have BK178 := n17_
                have GW178 := n18_
                have GE178 := n19_
                have NB101_178 := n20_
                have NB178_101 := n21_
                have NB130_178 := n22_
                have NB178_130 := n23_
                have NB157_178 := n24_
                have NB178_157 := n25_
                clear n0_ n1_ n2_ n3_ n4_ n5_ n6_ n7_ n8_ n9_ n10_ n11_ n12_ n13_ n14_ n15_ n16_ n17_ n18_ n19_ n20_ n21_ n22_ n23_ n24_ n25_
                clear hb hbox hg
                refine hK.out _ _ ⟨(blk_cell BK130.out 0).trans rfl, (blk_cell BK130.out 1).trans rfl, (blk_cell BK130.out 2).trans rfl, (blk_cell BK130.out 3).trans rfl, (blk_cell BK130.out 4).trans rfl, (blk_cell BK130.out 5).trans rfl, (blk_cell BK130.out 6).trans rfl⟩ (fun hHeld => ?_)
                clear hK K
                refine norm_ (a' := ?_) ?_ ?_
                rotate_left
                ·
                 show Act.put _ (some 16) _ = _
                 simp only [Act.put, List.setIfInBounds_toArray, List.set_cons_zero, List.set_cons_succ, i64_w, i32_w]
                 rfl
                refine one_ (i := 7) (N := some 70) (bm 14 2303) rfl rfl (one_of HT_.out (by kernel_rfl)) (by decide) (fun K hK => ?_)
                refine goes_ Try.func21 (by kernel_rfl) rfl #[.slice Ao50 y158.length co50, .agg #[.int .i64 t122, .int .i64 t123, .int .i64 t124, .int .i64 t125, .int .i64 t126, .int .i64 t127, .int .i64 t128], .int .i64 x10_9] (by rfl) rfl rfl (by (try simp only [List.map_toArray, List.map_cons, List.map_nil]); first | done | rfl | (simp only [List.length_drop, List.length_take]; rfl)) ?_
                with_reducible refine (block_Decode.calls _ _ y158 t122 t123 t124 t125 t126 t127 t128 x10_9 t162 t165 t168 t171 t174 t177 _ ?side1 ?side2 A38.out).mono ?_
                (case side1 => repeat (first | exact (by repeat (first | (with_reducible exact HR161.out) | (with_reducible refine Kd.C_alloc ?_ _) | (with_reducible refine Kd.C_drewN ?_ _) | (with_reducible refine Kd.C_drew ?_) | exact HR161.out)) | (with_reducible refine Kd.C_alloc ?_ _) | (with_reducible refine Kd.C_drewN ?_ _) | (with_reducible refine Kd.C_drew ?_)))
                (case side2 => exact HC161.out)
                rintro e w75 ⟨v163, v166, v169, v172, v175, rfl, ho0, ho1, ho2, ho3, ho4, hb⟩
                refine ⟨_, rfl, ?_⟩
                have n0_ := Aside0.mk (Kd.R_elder' (kr HO_102000) (Kd.R_base ho0) hb)
                have n1_ := Aside0.mk (Kd.R_elder' (kr HO_102001) (Kd.R_base ho1) hb)
                have n2_ := Aside0.mk (Kd.R_elder' (kr HO_102002) (Kd.R_base ho2) hb)
                have n3_ := Aside0.mk (Kd.R_mono (Kd.R_told (Kd.R_told (Kd.R_old (kr HO_102003) hb) (Kd.R_base ho3)) (Kd.R_base ho4)) (fun _ h_ => h_.1))
                have n4_ := Aside0.mk (Kd.R_mono (Kd.R_told (Kd.R_told (Kd.R_old (kr HO_102004) hb) (Kd.R_base ho3)) (Kd.R_base ho4)) (fun _ h_ => h_.1))
                have n5_ := krb HO121 hb
                have n6_ := krb HO140 hb
                have n7_ := Aside0.mk (Kd.R_elder' (kr HO143) (Kd.R_base ho0) hb)
                have n8_ := Aside0.mk (Kd.R_elder' (kr HO146) (Kd.R_base ho1) hb)
                have n9_ := Aside0.mk (Kd.R_elder' (kr HO149) (Kd.R_base ho2) hb)
                have n10_ := Aside0.mk (Kd.R_mono (Kd.R_told (Kd.R_told (Kd.R_old (kr HO152) hb) (Kd.R_base ho3)) (Kd.R_base ho4)) (fun _ h_ => h_.1))
                have n11_ := Aside0.mk (Kd.R_mono (Kd.R_told (Kd.R_told (Kd.R_old (kr HO155) hb) (Kd.R_base ho3)) (Kd.R_base ho4)) (fun _ h_ => h_.1))
                have n12_ := Aside0.mk (Kd.R_lower (Kd.R_new' (Kd.R_new' ho0 (Kd.R_lt (kr HO_102000))) (Kd.R_lt (kr HO143))) (below_size (Sq.kl4 HB GE101 GE130 GE157 GE178)))
                have n13_ := Aside0.mk (Kd.R_lower (Kd.R_new' (Kd.R_new' ho1 (Kd.R_lt (kr HO_102001))) (Kd.R_lt (kr HO146))) (below_size (Sq.kl4 HB GE101 GE130 GE157 GE178)))
                have n14_ := Aside0.mk (Kd.R_lower (Kd.R_new' (Kd.R_new' ho2 (Kd.R_lt (kr HO_102002))) (Kd.R_lt (kr HO149))) (below_size (Sq.kl4 HB GE101 GE130 GE157 GE178)))
                have n15_ := Aside0.mk (Kd.R_lower (Kd.R_new' (Kd.R_new' (Kd.R_new' (Kd.R_new' ho3 (Kd.R_lt (kr HO_102003))) (Kd.R_lt (kr HO_102004))) (Kd.R_lt (kr HO152))) (Kd.R_lt (kr HO155))) (below_size (Sq.kl4 HB GE101 GE130 GE157 GE178)))
                have n16_ := Aside0.mk (Kd.R_lower (Kd.R_new' (Kd.R_new' (Kd.R_new' (Kd.R_new' ho4 (Kd.R_lt (kr HO_102003))) (Kd.R_lt (kr HO_102004))) (Kd.R_lt (kr HO152))) (Kd.R_lt (kr HO155))) (below_size (Sq.kl4 HB GE101 GE130 GE157 GE178)))
                have n17_ := kbb BK101 hb
                have n18_ := kbb BK130 hb
                have n19_ := kbb BK157 hb
                have n20_ := Aside0.mk (Kd.C_below (by repeat (first | (with_reducible exact HR161.out) | (with_reducible refine Kd.C_alloc ?_ _) | (with_reducible refine Kd.C_drewN ?_ _) | (with_reducible refine Kd.C_drew ?_) | exact HR161.out)) hb)
                have n21_ := kbb BK178 hb
                have n22_ := Aside0.mk (below_step (Sq.kl4 HB GE101 GE130 GE157 GE178) hb)
                clear HO_102000
                clear HO_102001
                clear HO_102002
                clear HO_102003
                clear HO_102004
                clear HO121
                clear HO140
                clear HO143
                clear HO146
                clear HO149
                clear HO152
                clear HO155
                clear BK101
                clear BK130
                clear BK157
                clear HR161
                clear BK178
                clear HB
                have HO_102000 := n0_
                have HO_102001 := n1_
                have HO_102002 := n2_
                have HO_102003 := n3_
                have HO_102004 := n4_
                have HO121 := n5_
                have HO140 := n6_
                have HO143 := n7_
                have HO146 := n8_
                have HO149 := n9_
                have HO152 := n10_
                have HO155 := n11_
                have HO164 := n12_
                have HO167 := n13_
                have HO170 := n14_
                have HO173 := n15_
                have HO176 := n16_
                have BK101 := n17_
                have BK130 := n18_
                have BK157 := n19_
                have HR161 := n20_
                have BK178 := n21_
                have HB := n22_
                clear n0_ n1_ n2_ n3_ n4_ n5_ n6_ n7_ n8_ n9_ n10_ n11_ n12_ n13_ n14_ n15_ n16_ n17_ n18_ n19_ n20_ n21_ n22_
                (try clear hb)
                (try clear hb2)
                (try clear hk)
                (try clear hi)
                (try clear ho0)
                (try clear ho1)
                (try clear ho2)
                (try clear ho3)
                (try clear ho4)
                refine hK.out _ _ ⟨(blk_cell BK130.out 0).trans rfl, (blk_cell BK130.out 1).trans rfl, (blk_cell BK130.out 2).trans rfl, (blk_cell BK130.out 3).trans rfl, (blk_cell BK130.out 4).trans rfl, (blk_cell BK130.out 5).trans rfl, (blk_cell BK130.out 6).trans rfl⟩ (fun hHeld => ?_)
                clear hK K
                refine norm_ (a' := ?_) ?_ ?_
                rotate_left
                ·
                 show Act.put _ (some 70) _ = _
                 simp only [Act.put, List.setIfInBounds_toArray, List.set_cons_zero, List.set_cons_succ, i64_w, i32_w]
                 rfl
                refine Sq.pu 8 (some 62) (bm 14 2559) HT_ ?_
                refine Sq.pu 9 (some 71) (bm 14 3071) HT_ ?_
                refine Sq.pu 10 (some 72) (bm 14 4095) HT_ ?_
                exact norm_ (by simp only [putAll, Act.put, List.setIfInBounds_toArray, List.set_cons_zero, List.set_cons_succ]) (hCont (v163, v166, v169, v172, v175, gb178) _ ⟨hHeld, (kr HO121), (kr HO140), (by (with_reducible repeat (first | apply Kd.R_alloc | apply Kd.R_drewN | apply Kd.R_drew)); exact Kd.R_mono HO143.out (fun _ hk => ⟨hk.2, hk.1⟩)), (by (with_reducible repeat (first | apply Kd.R_alloc | apply Kd.R_drewN | apply Kd.R_drew)); exact Kd.R_mono HO146.out (fun _ hk => ⟨hk.2, hk.1⟩)), (by (with_reducible repeat (first | apply Kd.R_alloc | apply Kd.R_drewN | apply Kd.R_drew)); exact Kd.R_mono HO149.out (fun _ hk => ⟨hk.2, hk.1⟩)), (by (with_reducible repeat (first | apply Kd.R_alloc | apply Kd.R_drewN | apply Kd.R_drew)); exact Kd.R_mono HO152.out (fun _ hk => ⟨hk.1.1.2.2, ⟨hk.1.2, ⟨hk.2, ⟨hk.1.1.1, hk.1.1.2.1⟩⟩⟩⟩)), (by (with_reducible repeat (first | apply Kd.R_alloc | apply Kd.R_drewN | apply Kd.R_drew)); exact Kd.R_mono HO155.out (fun _ hk => ⟨hk.1.1.2.2, ⟨hk.1.2, ⟨hk.2, ⟨hk.1.1.1, hk.1.1.2.1⟩⟩⟩⟩)), (by (with_reducible repeat (first | apply Kd.R_alloc | apply Kd.R_drewN | apply Kd.R_drew)); exact Kd.R_mono HO164.out (fun _ hk => ⟨hk.2, hk.1.2⟩)), (by (with_reducible repeat (first | apply Kd.R_alloc | apply Kd.R_drewN | apply Kd.R_drew)); exact Kd.R_mono HO167.out (fun _ hk => ⟨hk.2, hk.1.2⟩)), (by (with_reducible repeat (first | apply Kd.R_alloc | apply Kd.R_drewN | apply Kd.R_drew)); exact Kd.R_mono HO170.out (fun _ hk => ⟨hk.2, hk.1.2⟩)), (by (with_reducible repeat (first | apply Kd.R_alloc | apply Kd.R_drewN | apply Kd.R_drew)); exact Kd.R_mono HO173.out (fun _ hk => ⟨hk.1.2, ⟨hk.2, ⟨hk.1.1.1.1, ⟨hk.1.1.1.2, hk.1.1.2⟩⟩⟩⟩)), (by (with_reducible repeat (first | apply Kd.R_alloc | apply Kd.R_drewN | apply Kd.R_drew)); exact Kd.R_mono HO176.out (fun _ hk => ⟨hk.1.2, ⟨hk.2, ⟨hk.1.1.1.1, ⟨hk.1.1.1.2, hk.1.1.2⟩⟩⟩⟩)), (kr HO_102000), (kr HO_102001), (kr HO_102002), (by (with_reducible repeat (first | apply Kd.R_alloc | apply Kd.R_drewN | apply Kd.R_drew)); exact Kd.R_mono HO_102003.out (fun _ hk => ⟨hk.1.1.2.1, ⟨hk.1.1.2.2, ⟨hk.1.2, ⟨hk.2, hk.1.1.1⟩⟩⟩⟩)), (by (with_reducible repeat (first | apply Kd.R_alloc | apply Kd.R_drewN | apply Kd.R_drew)); exact Kd.R_mono HO_102004.out (fun _ hk => ⟨hk.1.1.2.1, ⟨hk.1.1.2.2, ⟨hk.1.2, ⟨hk.2, hk.1.1.1⟩⟩⟩⟩)), (kb BK101), (kb BK130), (kb BK157), (kb BK178), GW178.out, GE178.out, NB101_178.out, NB178_101.out, NB130_178.out, NB178_130.out, NB157_178.out, NB178_157.out, (Sq.kl4 HB GE101 GE130 GE157 GE178)⟩)
              rintro ⟨v163, v166, v169, v172, v175, gb178⟩ w76 ⟨hS_, h0_, h1_, h2_, h3_, h4_, h5_, h6_, h7_, h8_, h9_, h10_, h11_, h12_, h13_, h14_, h15_, h16_, h17_, h18_, h19_, h20_, h21_, h22_, h23_, h24_, h25_, h26_, h27_, h28_, h29_⟩
              have n0_ : Aside0 (Kd.R (Kd.int .u8) 5 w76 w.heap.size (fun k_ => some k_ ≠ (v139 : Value).ownBlock) (.slice Ao50 t119.length co50) t119) := ⟨h0_⟩
              have n1_ : Aside0 (Kd.R (Kd.int .u8) 5 w76 w.heap.size (fun k_ => some k_ ≠ (.slice Ao50 t119.length co50 : Value).ownBlock) v139 y138) := ⟨h1_⟩
              have n2_ : Aside0 (Kd.R k56 56 w76 w.heap.size (fun k_ => some k_ ≠ (v163 : Value).ownBlock ∧ some k_ ≠ (.slice Ao15 t103.length co15 : Value).ownBlock) (.slice Ao61 t141.length co61) t141) := ⟨h2_⟩
              have n3_ : Aside0 (Kd.R k54 54 w76 w.heap.size (fun k_ => some k_ ≠ (v166 : Value).ownBlock ∧ some k_ ≠ (.slice Ao17 t106.length co17 : Value).ownBlock) (.slice Ao63 t144.length co63) t144) := ⟨h3_⟩
              have n4_ : Aside0 (Kd.R k67 67 w76 w.heap.size (fun k_ => some k_ ≠ (v169 : Value).ownBlock ∧ some k_ ≠ (.slice Ao18 t109.length co18 : Value).ownBlock) (.slice Ao65 t147.length co65) t147) := ⟨h4_⟩
              have n5_ : Aside0 (Kd.R Kd.bool 4 w76 w.heap.size (fun k_ => some k_ ≠ (.slice Ao69 t153.length co69 : Value).ownBlock ∧ some k_ ≠ (v172 : Value).ownBlock ∧ some k_ ≠ (v175 : Value).ownBlock ∧ some k_ ≠ (.slice Ao19 t112.length co19 : Value).ownBlock ∧ some k_ ≠ (.slice Ao20 t115.length co20 : Value).ownBlock) (.slice Ao67 t150.length co67) t150) := ⟨h5_⟩
              have n6_ : Aside0 (Kd.R Kd.bool 4 w76 w.heap.size (fun k_ => some k_ ≠ (.slice Ao67 t150.length co67 : Value).ownBlock ∧ some k_ ≠ (v172 : Value).ownBlock ∧ some k_ ≠ (v175 : Value).ownBlock ∧ some k_ ≠ (.slice Ao19 t112.length co19 : Value).ownBlock ∧ some k_ ≠ (.slice Ao20 t115.length co20 : Value).ownBlock) (.slice Ao69 t153.length co69) t153) := ⟨h6_⟩
              have n7_ : Aside0 (Kd.R k56 56 w76 w.heap.size (fun k_ => some k_ ≠ (.slice Ao61 t141.length co61 : Value).ownBlock ∧ some k_ ≠ (.slice Ao15 t103.length co15 : Value).ownBlock) v163 t162) := ⟨h7_⟩
              have n8_ : Aside0 (Kd.R k54 54 w76 w.heap.size (fun k_ => some k_ ≠ (.slice Ao63 t144.length co63 : Value).ownBlock ∧ some k_ ≠ (.slice Ao17 t106.length co17 : Value).ownBlock) v166 t165) := ⟨h8_⟩
              have n9_ : Aside0 (Kd.R k67 67 w76 w.heap.size (fun k_ => some k_ ≠ (.slice Ao65 t147.length co65 : Value).ownBlock ∧ some k_ ≠ (.slice Ao18 t109.length co18 : Value).ownBlock) v169 t168) := ⟨h9_⟩
              have n10_ : Aside0 (Kd.R Kd.bool 4 w76 w.heap.size (fun k_ => some k_ ≠ (.slice Ao67 t150.length co67 : Value).ownBlock ∧ some k_ ≠ (.slice Ao69 t153.length co69 : Value).ownBlock ∧ some k_ ≠ (v175 : Value).ownBlock ∧ some k_ ≠ (.slice Ao19 t112.length co19 : Value).ownBlock ∧ some k_ ≠ (.slice Ao20 t115.length co20 : Value).ownBlock) v172 t171) := ⟨h10_⟩
              have n11_ : Aside0 (Kd.R Kd.bool 4 w76 w.heap.size (fun k_ => some k_ ≠ (.slice Ao67 t150.length co67 : Value).ownBlock ∧ some k_ ≠ (.slice Ao69 t153.length co69 : Value).ownBlock ∧ some k_ ≠ (v172 : Value).ownBlock ∧ some k_ ≠ (.slice Ao19 t112.length co19 : Value).ownBlock ∧ some k_ ≠ (.slice Ao20 t115.length co20 : Value).ownBlock) v175 t174) := ⟨h11_⟩
              have n12_ : Aside0 (Kd.R k56 56 w76 w.heap.size (fun k_ => some k_ ≠ (.slice Ao61 t141.length co61 : Value).ownBlock ∧ some k_ ≠ (v163 : Value).ownBlock) (.slice Ao15 t103.length co15) t103) := ⟨h12_⟩
              have n13_ : Aside0 (Kd.R k54 54 w76 w.heap.size (fun k_ => some k_ ≠ (.slice Ao63 t144.length co63 : Value).ownBlock ∧ some k_ ≠ (v166 : Value).ownBlock) (.slice Ao17 t106.length co17) t106) := ⟨h13_⟩
              have n14_ : Aside0 (Kd.R k67 67 w76 w.heap.size (fun k_ => some k_ ≠ (.slice Ao65 t147.length co65 : Value).ownBlock ∧ some k_ ≠ (v169 : Value).ownBlock) (.slice Ao18 t109.length co18) t109) := ⟨h14_⟩
              have n15_ : Aside0 (Kd.R Kd.bool 4 w76 w.heap.size (fun k_ => some k_ ≠ (.slice Ao67 t150.length co67 : Value).ownBlock ∧ some k_ ≠ (.slice Ao69 t153.length co69 : Value).ownBlock ∧ some k_ ≠ (v172 : Value).ownBlock ∧ some k_ ≠ (v175 : Value).ownBlock ∧ some k_ ≠ (.slice Ao20 t115.length co20 : Value).ownBlock) (.slice Ao19 t112.length co19) t112) := ⟨h15_⟩
              have n16_ : Aside0 (Kd.R Kd.bool 4 w76 w.heap.size (fun k_ => some k_ ≠ (.slice Ao67 t150.length co67 : Value).ownBlock ∧ some k_ ≠ (.slice Ao69 t153.length co69 : Value).ownBlock ∧ some k_ ≠ (v172 : Value).ownBlock ∧ some k_ ≠ (v175 : Value).ownBlock ∧ some k_ ≠ (.slice Ao19 t112.length co19 : Value).ownBlock) (.slice Ao20 t115.length co20) t115) := ⟨h16_⟩
              have n17_ : Aside0 (w76.heap[gb101]? = some (.cells #[.slice Ao15 t103.length co15, .slice Ao17 t106.length co17, .slice Ao18 t109.length co18, .slice Ao19 t112.length co19, .slice Ao20 t115.length co20] 27 (0, 0))) := ⟨h17_⟩
              have n18_ : Aside0 (w76.heap[gb130]? = some (.cells #[.int .i64 t122, .int .i64 t123, .int .i64 t124, .int .i64 t125, .int .i64 t126, .int .i64 t127, .int .i64 t128] 35 (0, 0))) := ⟨h18_⟩
              have n19_ : Aside0 (w76.heap[gb157]? = some (.cells #[.slice Ao61 t141.length co61, .slice Ao63 t144.length co63, .slice Ao65 t147.length co65, .slice Ao67 t150.length co67, .slice Ao69 t153.length co69] 27 (0, 0))) := ⟨h19_⟩
              have n20_ : Aside0 (w76.heap[gb178]? = some (.cells #[.slice none 0 0, .slice none 0 0, .slice none 0 0, .slice none 0 0, .slice none 0 0] 27 (0, 0))) := ⟨h20_⟩
              have n21_ : Aside0 (w.heap.size ≤ gb178) := ⟨h21_⟩
              have n22_ : Aside0 (w.heap.size ≤ gb178) := ⟨h22_⟩
              have n23_ : Aside0 (gb101 ≠ gb178) := ⟨h23_⟩
              have n24_ : Aside0 (gb178 ≠ gb101) := ⟨h24_⟩
              have n25_ : Aside0 (gb130 ≠ gb178) := ⟨h25_⟩
              have n26_ : Aside0 (gb178 ≠ gb130) := ⟨h26_⟩
              have n27_ : Aside0 (gb157 ≠ gb178) := ⟨h27_⟩
              have n28_ : Aside0 (gb178 ≠ gb157) := ⟨h28_⟩
              have n29_ : Aside0 (Below w.heap.size w w76) := ⟨h29_⟩
              clear HO_102000
              clear HO_102001
              clear HO_102002
              clear HO_102003
              clear HO_102004
              clear HO121
              clear HO140
              clear HO143
              clear HO146
              clear HO149
              clear HO152
              clear HO155
              clear BK101
              clear BK130
              clear BK157
              clear HB
              clear h0_ h1_ h2_ h3_ h4_ h5_ h6_ h7_ h8_ h9_ h10_ h11_ h12_ h13_ h14_ h15_ h16_ h17_ h18_ h19_ h20_ h21_ h22_ h23_ h24_ h25_ h26_ h27_ h28_ h29_
              have HO121 := n0_
              have HO140 := n1_
              have HO143 := n2_
              have HO146 := n3_
              have HO149 := n4_
              have HO152 := n5_
              have HO155 := n6_
              have HO164 := n7_
              have HO167 := n8_
              have HO170 := n9_
              have HO173 := n10_
              have HO176 := n11_
              have HO_102000 := n12_
              have HO_102001 := n13_
              have HO_102002 := n14_
              have HO_102003 := n15_
              have HO_102004 := n16_
              have BK101 := n17_
              have BK130 := n18_
              have BK157 := n19_
              have BK178 := n20_
              have GW178 := n21_
              have GE178 := n22_
              have NB101_178 := n23_
              have NB178_101 := n24_
              have NB130_178 := n25_
              have NB178_130 := n26_
              have NB157_178 := n27_
              have NB178_157 := n28_
              have HB := n29_
              clear n0_ n1_ n2_ n3_ n4_ n5_ n6_ n7_ n8_ n9_ n10_ n11_ n12_ n13_ n14_ n15_ n16_ n17_ n18_ n19_ n20_ n21_ n22_ n23_ n24_ n25_ n26_ n27_ n28_ n29_
              have hHeld : w76.cell? ⟨gb130, 0, none⟩ = some (.int .i64 t122) ∧ w76.cell? ⟨gb130, 1, none⟩ = some (.int .i64 t123) ∧ w76.cell? ⟨gb130, 2, none⟩ = some (.int .i64 t124) ∧ w76.cell? ⟨gb130, 3, none⟩ = some (.int .i64 t125) ∧ w76.cell? ⟨gb130, 4, none⟩ = some (.int .i64 t126) ∧ w76.cell? ⟨gb130, 5, none⟩ = some (.int .i64 t127) ∧ w76.cell? ⟨gb130, 6, none⟩ = some (.int .i64 t128) := hS_
              obtain ⟨Ao77, co77, eo77⟩ := Kd.R_slice HO164.out
              (first | subst eo77 | (injection eo77 with f1_ f2_ f3_; have f4_ := f1_.symm; have f5_ := f3_.symm; clear f1_ f2_ f3_; subst f4_; subst f5_))
              obtain ⟨Ao79, co79, eo79⟩ := Kd.R_slice HO167.out
              (first | subst eo79 | (injection eo79 with f1_ f2_ f3_; have f4_ := f1_.symm; have f5_ := f3_.symm; clear f1_ f2_ f3_; subst f4_; subst f5_))
              obtain ⟨Ao81, co81, eo81⟩ := Kd.R_slice HO170.out
              (first | subst eo81 | (injection eo81 with f1_ f2_ f3_; have f4_ := f1_.symm; have f5_ := f3_.symm; clear f1_ f2_ f3_; subst f4_; subst f5_))
              obtain ⟨Ao83, co83, eo83⟩ := Kd.R_slice HO173.out
              (first | subst eo83 | (injection eo83 with f1_ f2_ f3_; have f4_ := f1_.symm; have f5_ := f3_.symm; clear f1_ f2_ f3_; subst f4_; subst f5_))
              obtain ⟨Ao85, co85, eo85⟩ := Kd.R_slice HO176.out
              (first | subst eo85 | (injection eo85 with f1_ f2_ f3_; have f4_ := f1_.symm; have f5_ := f3_.symm; clear f1_ f2_ f3_; subst f4_; subst f5_))
              refine norm_ (a' := ?_) ?_ ?_
              rotate_left
              ·
               simp only [putAll, Act.put, List.setIfInBounds_toArray, List.set_cons_zero, List.set_cons_succ]
               rfl
              refine one_ (i := 12) (N := none) (bm 14 8191) rfl rfl (one_of HT_.out (by kernel_rfl)) (by decide) (fun K hK => ?_)
              have hs78 := kc BK178 0 rfl
              have hfs78 := blk_frozen BK178.out 0
              have hns78_0 := NB101_178.out
              have hns78_1 := NB130_178.out
              have hns78_2 := NB157_178.out
              have hms78_0 := NB178_101.out
              have hms78_1 := NB178_130.out
              have hms78_2 := NB178_157.out
              have hs80 := kc BK178 1 rfl
              have hfs80 := blk_frozen BK178.out 1
              have hns80_0 := NB101_178.out
              have hns80_1 := NB130_178.out
              have hns80_2 := NB157_178.out
              have hms80_0 := NB178_101.out
              have hms80_1 := NB178_130.out
              have hms80_2 := NB178_157.out
              have hs82 := kc BK178 2 rfl
              have hfs82 := blk_frozen BK178.out 2
              have hns82_0 := NB101_178.out
              have hns82_1 := NB130_178.out
              have hns82_2 := NB157_178.out
              have hms82_0 := NB178_101.out
              have hms82_1 := NB178_130.out
              have hms82_2 := NB178_157.out
              have hs84 := kc BK178 3 rfl
              have hfs84 := blk_frozen BK178.out 3
              have hns84_0 := NB101_178.out
              have hns84_1 := NB130_178.out
              have hns84_2 := NB157_178.out
              have hms84_0 := NB178_101.out
              have hms84_1 := NB178_130.out
              have hms84_2 := NB178_157.out
              have hs86 := kc BK178 4 rfl
              have hfs86 := blk_frozen BK178.out 4
              have hns86_0 := NB101_178.out
              have hns86_1 := NB130_178.out
              have hns86_2 := NB157_178.out
              have hms86_0 := NB178_101.out
              have hms86_1 := NB178_130.out
              have hms86_2 := NB178_157.out
              refine skip_ (w1 := ?_) (by rfl) rfl ?_ ?_
              rotate_left
              ·
               go_simp
               rfl
              refine hK.out _ _ ⟨(Sq.cf5 NB130_178 hHeld.1), (Sq.cf5 NB130_178 hHeld.2.1), (Sq.cf5 NB130_178 hHeld.2.2.1), (Sq.cf5 NB130_178 hHeld.2.2.2.1), (Sq.cf5 NB130_178 hHeld.2.2.2.2.1), (Sq.cf5 NB130_178 hHeld.2.2.2.2.2.1), (Sq.cf5 NB130_178 hHeld.2.2.2.2.2.2)⟩ (fun hHeld => ?_)
              clear hK K
              refine Sq.pu 13 (some 17) (bm 14 16383) HT_ ?_
              refine done_ (done_of HT_.out (by kernel_rfl)) ?_
              try go_wp2
              obtain ⟨w87, hw_⟩ : ∃ x, x = (((((w76.setCell ⟨gb178, 0, none⟩ (.slice Ao77 t162.length co77)).setCell ⟨gb178, 1, none⟩ (.slice Ao79 t165.length co79)).setCell ⟨gb178, 2, none⟩ (.slice Ao81 t168.length co81)).setCell ⟨gb178, 3, none⟩ (.slice Ao83 t171.length co83)).setCell ⟨gb178, 4, none⟩ (.slice Ao85 t174.length co85)) := ⟨_, rfl⟩
              have n0_ : Aside0 (Kd.R k56 56 w87 w.heap.size (fun k_ => some k_ ≠ (.slice Ao61 t141.length co61 : Value).ownBlock ∧ some k_ ≠ (.slice Ao77 t162.length co77 : Value).ownBlock) (.slice Ao15 t103.length co15) t103) := ⟨by rw [hw_]; (with_reducible repeat (first | apply Kd.R_alloc | apply Kd.R_drewN | apply Kd.R_drew)); exact Kd.R_mono (Sq.rf5 HO_102000 BK178) (fun _ hk => ⟨hk.1.1, hk.1.2⟩)⟩
              have n1_ : Aside0 (Kd.R k54 54 w87 w.heap.size (fun k_ => some k_ ≠ (.slice Ao63 t144.length co63 : Value).ownBlock ∧ some k_ ≠ (.slice Ao79 t165.length co79 : Value).ownBlock) (.slice Ao17 t106.length co17) t106) := ⟨by rw [hw_]; (with_reducible repeat (first | apply Kd.R_alloc | apply Kd.R_drewN | apply Kd.R_drew)); exact Kd.R_mono (Sq.rf5 HO_102001 BK178) (fun _ hk => ⟨hk.1.1, hk.1.2⟩)⟩
              have n2_ : Aside0 (Kd.R k67 67 w87 w.heap.size (fun k_ => some k_ ≠ (.slice Ao65 t147.length co65 : Value).ownBlock ∧ some k_ ≠ (.slice Ao81 t168.length co81 : Value).ownBlock) (.slice Ao18 t109.length co18) t109) := ⟨by rw [hw_]; (with_reducible repeat (first | apply Kd.R_alloc | apply Kd.R_drewN | apply Kd.R_drew)); exact Kd.R_mono (Sq.rf5 HO_102002 BK178) (fun _ hk => ⟨hk.1.1, hk.1.2⟩)⟩
              have n3_ : Aside0 (Kd.R Kd.bool 4 w87 w.heap.size (fun k_ => some k_ ≠ (.slice Ao20 t115.length co20 : Value).ownBlock ∧ some k_ ≠ (.slice Ao67 t150.length co67 : Value).ownBlock ∧ some k_ ≠ (.slice Ao69 t153.length co69 : Value).ownBlock ∧ some k_ ≠ (.slice Ao83 t171.length co83 : Value).ownBlock ∧ some k_ ≠ (.slice Ao85 t174.length co85 : Value).ownBlock) (.slice Ao19 t112.length co19) t112) := ⟨by rw [hw_]; (with_reducible repeat (first | apply Kd.R_alloc | apply Kd.R_drewN | apply Kd.R_drew)); exact Kd.R_mono (Sq.rf5 HO_102003 BK178) (fun _ hk => ⟨hk.1.2.2.2.2, ⟨hk.1.1, ⟨hk.1.2.1, ⟨hk.1.2.2.1, hk.1.2.2.2.1⟩⟩⟩⟩)⟩
              have n4_ : Aside0 (Kd.R Kd.bool 4 w87 w.heap.size (fun k_ => some k_ ≠ (.slice Ao19 t112.length co19 : Value).ownBlock ∧ some k_ ≠ (.slice Ao67 t150.length co67 : Value).ownBlock ∧ some k_ ≠ (.slice Ao69 t153.length co69 : Value).ownBlock ∧ some k_ ≠ (.slice Ao83 t171.length co83 : Value).ownBlock ∧ some k_ ≠ (.slice Ao85 t174.length co85 : Value).ownBlock) (.slice Ao20 t115.length co20) t115) := ⟨by rw [hw_]; (with_reducible repeat (first | apply Kd.R_alloc | apply Kd.R_drewN | apply Kd.R_drew)); exact Kd.R_mono (Sq.rf5 HO_102004 BK178) (fun _ hk => ⟨hk.1.2.2.2.2, ⟨hk.1.1, ⟨hk.1.2.1, ⟨hk.1.2.2.1, hk.1.2.2.2.1⟩⟩⟩⟩)⟩
              have n5_ : Aside0 (Kd.R (Kd.int .u8) 5 w87 w.heap.size (fun k_ => some k_ ≠ (v139 : Value).ownBlock) (.slice Ao50 t119.length co50) t119) := ⟨by rw [hw_]; (with_reducible repeat (first | apply Kd.R_alloc | apply Kd.R_drewN | apply Kd.R_drew)); exact Kd.R_mono (Sq.rf5 HO121 BK178) (fun _ hk => hk.1)⟩
              have n6_ : Aside0 (Kd.R (Kd.int .u8) 5 w87 w.heap.size (fun k_ => some k_ ≠ (.slice Ao50 t119.length co50 : Value).ownBlock) v139 y138) := ⟨by rw [hw_]; (with_reducible repeat (first | apply Kd.R_alloc | apply Kd.R_drewN | apply Kd.R_drew)); exact Kd.R_mono (Sq.rf5 HO140 BK178) (fun _ hk => hk.1)⟩
              have n7_ : Aside0 (Kd.R k56 56 w87 w.heap.size (fun k_ => some k_ ≠ (.slice Ao15 t103.length co15 : Value).ownBlock ∧ some k_ ≠ (.slice Ao77 t162.length co77 : Value).ownBlock) (.slice Ao61 t141.length co61) t141) := ⟨by rw [hw_]; (with_reducible repeat (first | apply Kd.R_alloc | apply Kd.R_drewN | apply Kd.R_drew)); exact Kd.R_mono (Sq.rf5 HO143 BK178) (fun _ hk => ⟨hk.1.2, hk.1.1⟩)⟩
              have n8_ : Aside0 (Kd.R k54 54 w87 w.heap.size (fun k_ => some k_ ≠ (.slice Ao17 t106.length co17 : Value).ownBlock ∧ some k_ ≠ (.slice Ao79 t165.length co79 : Value).ownBlock) (.slice Ao63 t144.length co63) t144) := ⟨by rw [hw_]; (with_reducible repeat (first | apply Kd.R_alloc | apply Kd.R_drewN | apply Kd.R_drew)); exact Kd.R_mono (Sq.rf5 HO146 BK178) (fun _ hk => ⟨hk.1.2, hk.1.1⟩)⟩
              have n9_ : Aside0 (Kd.R k67 67 w87 w.heap.size (fun k_ => some k_ ≠ (.slice Ao18 t109.length co18 : Value).ownBlock ∧ some k_ ≠ (.slice Ao81 t168.length co81 : Value).ownBlock) (.slice Ao65 t147.length co65) t147) := ⟨by rw [hw_]; (with_reducible repeat (first | apply Kd.R_alloc | apply Kd.R_drewN | apply Kd.R_drew)); exact Kd.R_mono (Sq.rf5 HO149 BK178) (fun _ hk => ⟨hk.1.2, hk.1.1⟩)⟩
              have n10_ : Aside0 (Kd.R Kd.bool 4 w87 w.heap.size (fun k_ => some k_ ≠ (.slice Ao19 t112.length co19 : Value).ownBlock ∧ some k_ ≠ (.slice Ao20 t115.length co20 : Value).ownBlock ∧ some k_ ≠ (.slice Ao69 t153.length co69 : Value).ownBlock ∧ some k_ ≠ (.slice Ao83 t171.length co83 : Value).ownBlock ∧ some k_ ≠ (.slice Ao85 t174.length co85 : Value).ownBlock) (.slice Ao67 t150.length co67) t150) := ⟨by rw [hw_]; (with_reducible repeat (first | apply Kd.R_alloc | apply Kd.R_drewN | apply Kd.R_drew)); exact Kd.R_mono (Sq.rf5 HO152 BK178) (fun _ hk => ⟨hk.1.2.2.2.1, ⟨hk.1.2.2.2.2, ⟨hk.1.1, ⟨hk.1.2.1, hk.1.2.2.1⟩⟩⟩⟩)⟩
              have n11_ : Aside0 (Kd.R Kd.bool 4 w87 w.heap.size (fun k_ => some k_ ≠ (.slice Ao19 t112.length co19 : Value).ownBlock ∧ some k_ ≠ (.slice Ao20 t115.length co20 : Value).ownBlock ∧ some k_ ≠ (.slice Ao67 t150.length co67 : Value).ownBlock ∧ some k_ ≠ (.slice Ao83 t171.length co83 : Value).ownBlock ∧ some k_ ≠ (.slice Ao85 t174.length co85 : Value).ownBlock) (.slice Ao69 t153.length co69) t153) := ⟨by rw [hw_]; (with_reducible repeat (first | apply Kd.R_alloc | apply Kd.R_drewN | apply Kd.R_drew)); exact Kd.R_mono (Sq.rf5 HO155 BK178) (fun _ hk => ⟨hk.1.2.2.2.1, ⟨hk.1.2.2.2.2, ⟨hk.1.1, ⟨hk.1.2.1, hk.1.2.2.1⟩⟩⟩⟩)⟩
              have n12_ : Aside0 (Kd.R k56 56 w87 w.heap.size (fun k_ => some k_ ≠ (.slice Ao15 t103.length co15 : Value).ownBlock ∧ some k_ ≠ (.slice Ao61 t141.length co61 : Value).ownBlock) (.slice Ao77 t162.length co77) t162) := ⟨by rw [hw_]; (with_reducible repeat (first | apply Kd.R_alloc | apply Kd.R_drewN | apply Kd.R_drew)); exact Kd.R_mono (Sq.rf5 HO164 BK178) (fun _ hk => ⟨hk.1.2, hk.1.1⟩)⟩
              have n13_ : Aside0 (Kd.R k54 54 w87 w.heap.size (fun k_ => some k_ ≠ (.slice Ao17 t106.length co17 : Value).ownBlock ∧ some k_ ≠ (.slice Ao63 t144.length co63 : Value).ownBlock) (.slice Ao79 t165.length co79) t165) := ⟨by rw [hw_]; (with_reducible repeat (first | apply Kd.R_alloc | apply Kd.R_drewN | apply Kd.R_drew)); exact Kd.R_mono (Sq.rf5 HO167 BK178) (fun _ hk => ⟨hk.1.2, hk.1.1⟩)⟩
              have n14_ : Aside0 (Kd.R k67 67 w87 w.heap.size (fun k_ => some k_ ≠ (.slice Ao18 t109.length co18 : Value).ownBlock ∧ some k_ ≠ (.slice Ao65 t147.length co65 : Value).ownBlock) (.slice Ao81 t168.length co81) t168) := ⟨by rw [hw_]; (with_reducible repeat (first | apply Kd.R_alloc | apply Kd.R_drewN | apply Kd.R_drew)); exact Kd.R_mono (Sq.rf5 HO170 BK178) (fun _ hk => ⟨hk.1.2, hk.1.1⟩)⟩
              have n15_ : Aside0 (Kd.R Kd.bool 4 w87 w.heap.size (fun k_ => some k_ ≠ (.slice Ao19 t112.length co19 : Value).ownBlock ∧ some k_ ≠ (.slice Ao20 t115.length co20 : Value).ownBlock ∧ some k_ ≠ (.slice Ao67 t150.length co67 : Value).ownBlock ∧ some k_ ≠ (.slice Ao69 t153.length co69 : Value).ownBlock ∧ some k_ ≠ (.slice Ao85 t174.length co85 : Value).ownBlock) (.slice Ao83 t171.length co83) t171) := ⟨by rw [hw_]; (with_reducible repeat (first | apply Kd.R_alloc | apply Kd.R_drewN | apply Kd.R_drew)); exact Kd.R_mono (Sq.rf5 HO173 BK178) (fun _ hk => ⟨hk.1.2.2.2.1, ⟨hk.1.2.2.2.2, ⟨hk.1.1, ⟨hk.1.2.1, hk.1.2.2.1⟩⟩⟩⟩)⟩
              have n16_ : Aside0 (Kd.R Kd.bool 4 w87 w.heap.size (fun k_ => some k_ ≠ (.slice Ao19 t112.length co19 : Value).ownBlock ∧ some k_ ≠ (.slice Ao20 t115.length co20 : Value).ownBlock ∧ some k_ ≠ (.slice Ao67 t150.length co67 : Value).ownBlock ∧ some k_ ≠ (.slice Ao69 t153.length co69 : Value).ownBlock ∧ some k_ ≠ (.slice Ao83 t171.length co83 : Value).ownBlock) (.slice Ao85 t174.length co85) t174) := ⟨by rw [hw_]; (with_reducible repeat (first | apply Kd.R_alloc | apply Kd.R_drewN | apply Kd.R_drew)); exact Kd.R_mono (Sq.rf5 HO176 BK178) (fun _ hk => ⟨hk.1.2.2.2.1, ⟨hk.1.2.2.2.2, ⟨hk.1.1, ⟨hk.1.2.1, hk.1.2.2.1⟩⟩⟩⟩)⟩
              have n17_ : Aside0 (w87.heap[gb101]? = some (.cells #[.slice Ao15 t103.length co15, .slice Ao17 t106.length co17, .slice Ao18 t109.length co18, .slice Ao19 t112.length co19, .slice Ao20 t115.length co20] 27 (0, 0))) := ⟨by rw [hw_]; (with_reducible repeat (first | refine blk_drewN ?_ _ | refine blk_drew ?_ | refine blk_alloc ?_ _)); refine blk_far ?_ NB101_178.out _; (with_reducible repeat (first | refine blk_drewN ?_ _ | refine blk_drew ?_ | refine blk_alloc ?_ _)); refine blk_far ?_ NB101_178.out _; (with_reducible repeat (first | refine blk_drewN ?_ _ | refine blk_drew ?_ | refine blk_alloc ?_ _)); refine blk_far ?_ NB101_178.out _; (with_reducible repeat (first | refine blk_drewN ?_ _ | refine blk_drew ?_ | refine blk_alloc ?_ _)); refine blk_far ?_ NB101_178.out _; (with_reducible repeat (first | refine blk_drewN ?_ _ | refine blk_drew ?_ | refine blk_alloc ?_ _)); refine blk_far ?_ NB101_178.out _; (with_reducible repeat (first | refine blk_drewN ?_ _ | refine blk_drew ?_ | refine blk_alloc ?_ _)); exact BK101.out⟩
              have n18_ : Aside0 (w87.heap[gb130]? = some (.cells #[.int .i64 t122, .int .i64 t123, .int .i64 t124, .int .i64 t125, .int .i64 t126, .int .i64 t127, .int .i64 t128] 35 (0, 0))) := ⟨by rw [hw_]; (with_reducible repeat (first | refine blk_drewN ?_ _ | refine blk_drew ?_ | refine blk_alloc ?_ _)); refine blk_far ?_ NB130_178.out _; (with_reducible repeat (first | refine blk_drewN ?_ _ | refine blk_drew ?_ | refine blk_alloc ?_ _)); refine blk_far ?_ NB130_178.out _; (with_reducible repeat (first | refine blk_drewN ?_ _ | refine blk_drew ?_ | refine blk_alloc ?_ _)); refine blk_far ?_ NB130_178.out _; (with_reducible repeat (first | refine blk_drewN ?_ _ | refine blk_drew ?_ | refine blk_alloc ?_ _)); refine blk_far ?_ NB130_178.out _; (with_reducible repeat (first | refine blk_drewN ?_ _ | refine blk_drew ?_ | refine blk_alloc ?_ _)); refine blk_far ?_ NB130_178.out _; (with_reducible repeat (first | refine blk_drewN ?_ _ | refine blk_drew ?_ | refine blk_alloc ?_ _)); exact BK130.out⟩
              have n19_ : Aside0 (w87.heap[gb157]? = some (.cells #[.slice Ao61 t141.length co61, .slice Ao63 t144.length co63, .slice Ao65 t147.length co65, .slice Ao67 t150.length co67, .slice Ao69 t153.length co69] 27 (0, 0))) := ⟨by rw [hw_]; (with_reducible repeat (first | refine blk_drewN ?_ _ | refine blk_drew ?_ | refine blk_alloc ?_ _)); refine blk_far ?_ NB157_178.out _; (with_reducible repeat (first | refine blk_drewN ?_ _ | refine blk_drew ?_ | refine blk_alloc ?_ _)); refine blk_far ?_ NB157_178.out _; (with_reducible repeat (first | refine blk_drewN ?_ _ | refine blk_drew ?_ | refine blk_alloc ?_ _)); refine blk_far ?_ NB157_178.out _; (with_reducible repeat (first | refine blk_drewN ?_ _ | refine blk_drew ?_ | refine blk_alloc ?_ _)); refine blk_far ?_ NB157_178.out _; (with_reducible repeat (first | refine blk_drewN ?_ _ | refine blk_drew ?_ | refine blk_alloc ?_ _)); refine blk_far ?_ NB157_178.out _; (with_reducible repeat (first | refine blk_drewN ?_ _ | refine blk_drew ?_ | refine blk_alloc ?_ _)); exact BK157.out⟩
              have n20_ : Aside0 (w87.heap[gb178]? = some (.cells #[.slice Ao77 t162.length co77, .slice Ao79 t165.length co79, .slice Ao81 t168.length co81, .slice Ao83 t171.length co83, .slice Ao85 t174.length co85] 27 (0, 0))) := ⟨by rw [hw_]; (with_reducible repeat (first | refine blk_drewN ?_ _ | refine blk_drew ?_ | refine blk_alloc ?_ _)); refine blk_put (cs := #[.slice Ao77 t162.length co77, .slice Ao79 t165.length co79, .slice Ao81 t168.length co81, .slice Ao83 t171.length co83, .slice none 0 0]) ?_ 4 _ rfl; (with_reducible repeat (first | refine blk_drewN ?_ _ | refine blk_drew ?_ | refine blk_alloc ?_ _)); refine blk_put (cs := #[.slice Ao77 t162.length co77, .slice Ao79 t165.length co79, .slice Ao81 t168.length co81, .slice none 0 0, .slice none 0 0]) ?_ 3 _ rfl; (with_reducible repeat (first | refine blk_drewN ?_ _ | refine blk_drew ?_ | refine blk_alloc ?_ _)); refine blk_put (cs := #[.slice Ao77 t162.length co77, .slice Ao79 t165.length co79, .slice none 0 0, .slice none 0 0, .slice none 0 0]) ?_ 2 _ rfl; (with_reducible repeat (first | refine blk_drewN ?_ _ | refine blk_drew ?_ | refine blk_alloc ?_ _)); refine blk_put (cs := #[.slice Ao77 t162.length co77, .slice none 0 0, .slice none 0 0, .slice none 0 0, .slice none 0 0]) ?_ 1 _ rfl; (with_reducible repeat (first | refine blk_drewN ?_ _ | refine blk_drew ?_ | refine blk_alloc ?_ _)); refine blk_put (cs := #[.slice none 0 0, .slice none 0 0, .slice none 0 0, .slice none 0 0, .slice none 0 0]) ?_ 0 _ rfl; (with_reducible repeat (first | refine blk_drewN ?_ _ | refine blk_drew ?_ | refine blk_alloc ?_ _)); exact BK178.out⟩
              have n21_ : Aside0 (Below w.heap.size w w87) := ⟨by rw [hw_]; exact Sq.kl4 HB GE101 GE130 GE157 GE178⟩
              (try clear HO_102000)
              (try clear HO_102001)
              (try clear HO_102002)
              (try clear HO_102003)
              (try clear HO_102004)
              (try clear HO121)
              (try clear HO140)
              (try clear HO143)
              (try clear HO146)
              (try clear HO149)
              (try clear HO152)
              (try clear HO155)
              (try clear HO164)
              (try clear HO167)
              (try clear HO170)
              (try clear HO173)
              (try clear HO176)
              (try clear BK101)
              (try clear BK130)
              (try clear BK157)
              (try clear BK178)
              (try clear HB)
              rw [← hw_]
              clear hw_
              have HO_102000 := n0_
              have HO_102001 := n1_
              have HO_102002 := n2_
              have HO_102003 := n3_
              have HO_102004 := n4_
              have HO121 := n5_
              have HO140 := n6_
              have HO143 := n7_
              have HO146 := n8_
              have HO149 := n9_
              have HO152 := n10_
              have HO155 := n11_
              have HO164 := n12_
              have HO167 := n13_
              have HO170 := n14_
              have HO173 := n15_
              have HO176 := n16_
              have BK101 := n17_
              have BK130 := n18_
              have BK157 := n19_
              have BK178 := n20_
              have HB := n21_
              clear n0_ n1_ n2_ n3_ n4_ n5_ n6_ n7_ n8_ n9_ n10_ n11_ n12_ n13_ n14_ n15_ n16_ n17_ n18_ n19_ n20_ n21_
              have n0_ := Aside0.mk (Kd.R_drew HO_102000.out)
              have n1_ := Aside0.mk (Kd.R_drew HO_102001.out)
              have n2_ := Aside0.mk (Kd.R_drew HO_102002.out)
              have n3_ := Aside0.mk (Kd.R_drew HO_102003.out)
              have n4_ := Aside0.mk (Kd.R_drew HO_102004.out)
              have n5_ := Aside0.mk (Kd.R_drew HO121.out)
              have n6_ := Aside0.mk (Kd.R_drew HO140.out)
              have n7_ := Aside0.mk (Kd.R_drew HO143.out)
              have n8_ := Aside0.mk (Kd.R_drew HO146.out)
              have n9_ := Aside0.mk (Kd.R_drew HO149.out)
              have n10_ := Aside0.mk (Kd.R_drew HO152.out)
              have n11_ := Aside0.mk (Kd.R_drew HO155.out)
              have n12_ := Aside0.mk (Kd.R_drew HO164.out)
              have n13_ := Aside0.mk (Kd.R_drew HO167.out)
              have n14_ := Aside0.mk (Kd.R_drew HO170.out)
              have n15_ := Aside0.mk (Kd.R_drew HO173.out)
              have n16_ := Aside0.mk (Kd.R_drew HO176.out)
              have n17_ := Aside0.mk (blk_drew BK101.out)
              have n18_ := Aside0.mk (blk_drew BK130.out)
              have n19_ := Aside0.mk (blk_drew BK157.out)
              have n20_ := Aside0.mk (blk_drew BK178.out)
              have n21_ := Aside0.mk (below_drew1 HB.out)
              clear HO_102000
              clear HO_102001
              clear HO_102002
              clear HO_102003
              clear HO_102004
              clear HO121
              clear HO140
              clear HO143
              clear HO146
              clear HO149
              clear HO152
              clear HO155
              clear HO164
              clear HO167
              clear HO170
              clear HO173
              clear HO176
              clear BK101
              clear BK130
              clear BK157
              clear BK178
              clear HB
              have HO_102000 := n0_
              have HO_102001 := n1_
              have HO_102002 := n2_
              have HO_102003 := n3_
              have HO_102004 := n4_
              have HO121 := n5_
              have HO140 := n6_
              have HO143 := n7_
              have HO146 := n8_
              have HO149 := n9_
              have HO152 := n10_
              have HO155 := n11_
              have HO164 := n12_
              have HO167 := n13_
              have HO170 := n14_
              have HO173 := n15_
              have HO176 := n16_
              have BK101 := n17_
              have BK130 := n18_
              have BK157 := n19_
              have BK178 := n20_
              have HB := n21_
              clear n0_ n1_ n2_ n3_ n4_ n5_ n6_ n7_ n8_ n9_ n10_ n11_ n12_ n13_ n14_ n15_ n16_ n17_ n18_ n19_ n20_ n21_
              refine start_ (n := 17) (S := fun w' => w'.cell? ⟨gb101, 0, none⟩ = some (.slice Ao15 t103.length co15) ∧ w'.cell? ⟨gb101, 1, none⟩ = some (.slice Ao17 t106.length co17) ∧ w'.cell? ⟨gb101, 2, none⟩ = some (.slice Ao18 t109.length co18) ∧ w'.cell? ⟨gb101, 3, none⟩ = some (.slice Ao19 t112.length co19) ∧ w'.cell? ⟨gb101, 4, none⟩ = some (.slice Ao20 t115.length co20) ∧ w'.cell? ⟨gb157, 0, none⟩ = some (.slice Ao61 t141.length co61) ∧ w'.cell? ⟨gb157, 1, none⟩ = some (.slice Ao63 t144.length co63) ∧ w'.cell? ⟨gb157, 2, none⟩ = some (.slice Ao65 t147.length co65) ∧ w'.cell? ⟨gb157, 3, none⟩ = some (.slice Ao67 t150.length co67) ∧ w'.cell? ⟨gb157, 4, none⟩ = some (.slice Ao69 t153.length co69)) (ds := []) #[false, false, false, false, false, false, false, false, false, false, false, false, false, false, false, false, false] (by kernel_rfl) rfl rfl ⟨(blk_cell BK101.out 0).trans rfl, (blk_cell BK101.out 1).trans rfl, (blk_cell BK101.out 2).trans rfl, (blk_cell BK101.out 3).trans rfl, (blk_cell BK101.out 4).trans rfl, (blk_cell BK157.out 0).trans rfl, (blk_cell BK157.out 1).trans rfl, (blk_cell BK157.out 2).trans rfl, (blk_cell BK157.out 3).trans rfl, (blk_cell BK157.out 4).trans rfl⟩ (fun hHeld => ?_); refine with_tabW longcaselaw06_BlockBack.tab15 longcaselaw06_BlockBack.bits15 (fun HT_ HW_ => ?_)
              generalize w87.drew = w88 at HO_102000 HO_102001 HO_102002 HO_102003 HO_102004 HO121 HO140 HO143 HO146 HO149 HO152 HO155 HO164 HO167 HO170 HO173 HO176 BK101 BK130 BK157 BK178 HB hHeld ⊢
              refine Sq.pu 0 (some 73) (bm 17 1) HT_ ?_
              refine Sq.pu 1 (some 74) (bm 17 3) HT_ ?_
              refine Sq.pu 2 (some 75) (bm 17 7) HT_ ?_
              refine Sq.pu 3 (some 76) (bm 17 15) HT_ ?_
              refine Sq.pu 4 (some 77) (bm 17 31) HT_ ?_
              refine Sq.pu 5 (some 78) (bm 17 63) HT_ ?_
              refine Sq.tk 6 (some 79) (bm 17 127) HT_ HW_ hHeld ?_
              refine Sq.tk 8 (some 81) (bm 17 383) HT_ HW_ hHeld ?_
              refine one_ (i := 7) (N := some 80) (bm 17 511) rfl rfl (one_of HT_.out (by kernel_rfl)) (by decide) (fun K hK => ?_)
              refine goes_ Try.func14 (by kernel_rfl) rfl #[.agg #[.slice Ao15 t103.length co15, .slice Ao17 t106.length co17, .slice Ao18 t109.length co18, .slice Ao19 t112.length co19, .slice Ao20 t115.length co20]] (by rfl) rfl rfl (by (try simp only [List.map_toArray, List.map_cons, List.map_nil]); first | done | rfl | (simp only [List.length_drop, List.length_take]; rfl)) ?_
              with_reducible refine (longcaselaw06_ref.calls _ _ t103 _ _ t106 _ _ t109 _ _ t112 _ _ t115 t179 t182 t185 t188 t191 _ A41.out).mono ?_
              rintro e w89 ⟨v180, v183, v186, v189, v192, rfl, ho0, ho1, ho2, ho3, ho4, hb⟩
              refine ⟨_, rfl, ?_⟩
              have n0_ := krb HO_102000 hb
              have n1_ := krb HO_102001 hb
              have n2_ := krb HO_102002 hb
              have n3_ := krb HO_102003 hb
              have n4_ := krb HO_102004 hb
              have n5_ := krb HO121 hb
              have n6_ := krb HO140 hb
              have n7_ := krb HO143 hb
              have n8_ := krb HO146 hb
              have n9_ := krb HO149 hb
              have n10_ := krb HO152 hb
              have n11_ := krb HO155 hb
              have n12_ := krb HO164 hb
              have n13_ := krb HO167 hb
              have n14_ := krb HO170 hb
              have n15_ := krb HO173 hb
              have n16_ := krb HO176 hb
              have n17_ := Aside0.mk (ho0 _ _ (kr HO_102000))
              have n18_ := Aside0.mk (ho1 _ _ (kr HO_102001))
              have n19_ := Aside0.mk (ho2 _ _ (kr HO_102002))
              have n20_ := Aside0.mk (ho3 _ _ (kr HO_102003))
              have n21_ := Aside0.mk (ho4 _ _ (kr HO_102004))
              have n22_ := kbb BK101 hb
              have n23_ := kbb BK130 hb
              have n24_ := kbb BK157 hb
              have n25_ := kbb BK178 hb
              have n26_ := Aside0.mk (below_step (Sq.kl4 HB GE101 GE130 GE157 GE178) hb)
              clear HO_102000
              clear HO_102001
              clear HO_102002
              clear HO_102003
              clear HO_102004
              clear HO121
              clear HO140
              clear HO143
              clear HO146
              clear HO149
              clear HO152
              clear HO155
              clear HO164
              clear HO167
              clear HO170
              clear HO173
              clear HO176
              clear BK101
              clear BK130
              clear BK157
              clear BK178
              clear HB
              have HO_102000 := n0_
              have HO_102001 := n1_
              have HO_102002 := n2_
              have HO_102003 := n3_
              have HO_102004 := n4_
              have HO121 := n5_
              have HO140 := n6_
              have HO143 := n7_
              have HO146 := n8_
              have HO149 := n9_
              have HO152 := n10_
              have HO155 := n11_
              have HO164 := n12_
              have HO167 := n13_
              have HO170 := n14_
              have HO173 := n15_
              have HO176 := n16_
              have HO181 := n17_
              have HO184 := n18_
              have HO187 := n19_
              have HO190 := n20_
              have HO193 := n21_
              have BK101 := n22_
              have BK130 := n23_
              have BK157 := n24_
              have BK178 := n25_
              have HB := n26_
              clear n0_ n1_ n2_ n3_ n4_ n5_ n6_ n7_ n8_ n9_ n10_ n11_ n12_ n13_ n14_ n15_ n16_ n17_ n18_ n19_ n20_ n21_ n22_ n23_ n24_ n25_ n26_
              (try clear hb)
              (try clear hb2)
              (try clear hk)
              (try clear hi)
              (try clear ho0)
              (try clear ho1)
              (try clear ho2)
              (try clear ho3)
              (try clear ho4)
              refine hK.out _ _ ⟨(blk_cell BK101.out 0).trans rfl, (blk_cell BK101.out 1).trans rfl, (blk_cell BK101.out 2).trans rfl, (blk_cell BK101.out 3).trans rfl, (blk_cell BK101.out 4).trans rfl, (blk_cell BK157.out 0).trans rfl, (blk_cell BK157.out 1).trans rfl, (blk_cell BK157.out 2).trans rfl, (blk_cell BK157.out 3).trans rfl, (blk_cell BK157.out 4).trans rfl⟩ (fun hHeld => ?_)
              clear hK K
              refine norm_ (a' := ?_) ?_ ?_
              rotate_left
              ·
               show Act.put _ (some 80) _ = _
               simp only [Act.put, List.setIfInBounds_toArray, List.set_cons_zero, List.set_cons_succ, i64_w, i32_w]
               rfl
              refine one_ (i := 9) (N := some 82) (bm 17 1023) rfl rfl (one_of HT_.out (by kernel_rfl)) (by decide) (fun K hK => ?_)
              refine goes_ Try.func14 (by kernel_rfl) rfl #[.agg #[.slice Ao61 t141.length co61, .slice Ao63 t144.length co63, .slice Ao65 t147.length co65, .slice Ao67 t150.length co67, .slice Ao69 t153.length co69]] (by rfl) rfl rfl (by (try simp only [List.map_toArray, List.map_cons, List.map_nil]); first | done | rfl | (simp only [List.length_drop, List.length_take]; rfl)) ?_
              with_reducible refine (longcaselaw06_ref.calls _ _ t141 _ _ t144 _ _ t147 _ _ t150 _ _ t153 t194 t197 t200 t203 t206 _ A42.out).mono ?_
              rintro e w90 ⟨v195, v198, v201, v204, v207, rfl, ho0, ho1, ho2, ho3, ho4, hb⟩
              refine ⟨_, rfl, ?_⟩
              have n0_ := krb HO_102000 hb
              have n1_ := krb HO_102001 hb
              have n2_ := krb HO_102002 hb
              have n3_ := krb HO_102003 hb
              have n4_ := krb HO_102004 hb
              have n5_ := krb HO121 hb
              have n6_ := krb HO140 hb
              have n7_ := krb HO143 hb
              have n8_ := krb HO146 hb
              have n9_ := krb HO149 hb
              have n10_ := krb HO152 hb
              have n11_ := krb HO155 hb
              have n12_ := krb HO164 hb
              have n13_ := krb HO167 hb
              have n14_ := krb HO170 hb
              have n15_ := krb HO173 hb
              have n16_ := krb HO176 hb
              have n17_ := krb HO181 hb
              have n18_ := krb HO184 hb
              have n19_ := krb HO187 hb
              have n20_ := krb HO190 hb
              have n21_ := krb HO193 hb
              have n22_ := Aside0.mk (ho0 _ _ (kr HO143))
              have n23_ := Aside0.mk (ho1 _ _ (kr HO146))
              have n24_ := Aside0.mk (ho2 _ _ (kr HO149))
              have n25_ := Aside0.mk (ho3 _ _ (kr HO152))
              have n26_ := Aside0.mk (ho4 _ _ (kr HO155))
              have n27_ := kbb BK101 hb
              have n28_ := kbb BK130 hb
              have n29_ := kbb BK157 hb
              have n30_ := kbb BK178 hb
              have n31_ := Aside0.mk (below_step (Sq.kl4 HB GE101 GE130 GE157 GE178) hb)
              clear HO_102000
              clear HO_102001
              clear HO_102002
              clear HO_102003
              clear HO_102004
              clear HO121
              clear HO140
              clear HO143
              clear HO146
              clear HO149
              clear HO152
              clear HO155
              clear HO164
              clear HO167
              clear HO170
              clear HO173
              clear HO176
              clear HO181
              clear HO184
              clear HO187
              clear HO190
              clear HO193
              clear BK101
              clear BK130
              clear BK157
              clear BK178
              clear HB
              have HO_102000 := n0_
              have HO_102001 := n1_
              have HO_102002 := n2_
              have HO_102003 := n3_
              have HO_102004 := n4_
              have HO121 := n5_
              have HO140 := n6_
              have HO143 := n7_
              have HO146 := n8_
              have HO149 := n9_
              have HO152 := n10_
              have HO155 := n11_
              have HO164 := n12_
              have HO167 := n13_
              have HO170 := n14_
              have HO173 := n15_
              have HO176 := n16_
              have HO181 := n17_
              have HO184 := n18_
              have HO187 := n19_
              have HO190 := n20_
              have HO193 := n21_
              have HO196 := n22_
              have HO199 := n23_
              have HO202 := n24_
              have HO205 := n25_
              have HO208 := n26_
              have BK101 := n27_
              have BK130 := n28_
              have BK157 := n29_
              have BK178 := n30_
              have HB := n31_
              clear n0_ n1_ n2_ n3_ n4_ n5_ n6_ n7_ n8_ n9_ n10_ n11_ n12_ n13_ n14_ n15_ n16_ n17_ n18_ n19_ n20_ n21_ n22_ n23_ n24_ n25_ n26_ n27_ n28_ n29_ n30_ n31_
              (try clear hb)
              (try clear hb2)
              (try clear hk)
              (try clear hi)
              (try clear ho0)
              (try clear ho1)
              (try clear ho2)
              (try clear ho3)
              (try clear ho4)
              obtain ⟨Ao91, co91, eo91⟩ := Kd.R_slice HO181.out
              (first | subst eo91 | (injection eo91 with f1_ f2_ f3_; have f4_ := f1_.symm; have f5_ := f3_.symm; clear f1_ f2_ f3_; subst f4_; subst f5_))
              obtain ⟨Ao92, co92, eo92⟩ := Kd.R_slice HO184.out
              (first | subst eo92 | (injection eo92 with f1_ f2_ f3_; have f4_ := f1_.symm; have f5_ := f3_.symm; clear f1_ f2_ f3_; subst f4_; subst f5_))
              obtain ⟨Ao93, co93, eo93⟩ := Kd.R_slice HO187.out
              (first | subst eo93 | (injection eo93 with f1_ f2_ f3_; have f4_ := f1_.symm; have f5_ := f3_.symm; clear f1_ f2_ f3_; subst f4_; subst f5_))
              obtain ⟨Ao94, co94, eo94⟩ := Kd.R_slice HO190.out
              (first | subst eo94 | (injection eo94 with f1_ f2_ f3_; have f4_ := f1_.symm; have f5_ := f3_.symm; clear f1_ f2_ f3_; subst f4_; subst f5_))
              obtain ⟨Ao95, co95, eo95⟩ := Kd.R_slice HO193.out
              (first | subst eo95 | (injection eo95 with f1_ f2_ f3_; have f4_ := f1_.symm; have f5_ := f3_.symm; clear f1_ f2_ f3_; subst f4_; subst f5_))
              obtain ⟨Ao96, co96, eo96⟩ := Kd.R_slice HO196.out
              (first | subst eo96 | (injection eo96 with f1_ f2_ f3_; have f4_ := f1_.symm; have f5_ := f3_.symm; clear f1_ f2_ f3_; subst f4_; subst f5_))
              obtain ⟨Ao97, co97, eo97⟩ := Kd.R_slice HO199.out
              (first | subst eo97 | (injection eo97 with f1_ f2_ f3_; have f4_ := f1_.symm; have f5_ := f3_.symm; clear f1_ f2_ f3_; subst f4_; subst f5_))
              obtain ⟨Ao98, co98, eo98⟩ := Kd.R_slice HO202.out
              (first | subst eo98 | (injection eo98 with f1_ f2_ f3_; have f4_ := f1_.symm; have f5_ := f3_.symm; clear f1_ f2_ f3_; subst f4_; subst f5_))
              obtain ⟨Ao99, co99, eo99⟩ := Kd.R_slice HO205.out
              (first | subst eo99 | (injection eo99 with f1_ f2_ f3_; have f4_ := f1_.symm; have f5_ := f3_.symm; clear f1_ f2_ f3_; subst f4_; subst f5_))
              obtain ⟨Ao100, co100, eo100⟩ := Kd.R_slice HO208.out
              (first | subst eo100 | (injection eo100 with f1_ f2_ f3_; have f4_ := f1_.symm; have f5_ := f3_.symm; clear f1_ f2_ f3_; subst f4_; subst f5_))
              refine hK.out _ _ ⟨(blk_cell BK101.out 0).trans rfl, (blk_cell BK101.out 1).trans rfl, (blk_cell BK101.out 2).trans rfl, (blk_cell BK101.out 3).trans rfl, (blk_cell BK101.out 4).trans rfl, (blk_cell BK157.out 0).trans rfl, (blk_cell BK157.out 1).trans rfl, (blk_cell BK157.out 2).trans rfl, (blk_cell BK157.out 3).trans rfl, (blk_cell BK157.out 4).trans rfl⟩ (fun hHeld => ?_)
              clear hK K
              refine norm_ (a' := ?_) ?_ ?_
              rotate_left
              ·
               show Act.put _ (some 82) _ = _
               simp only [Act.put, List.setIfInBounds_toArray, List.set_cons_zero, List.set_cons_succ, i64_w, i32_w]
               rfl
              refine one_ (i := 10) (N := some 83) (bm 17 2047) rfl rfl (one_of HT_.out (by kernel_rfl)) (by decide) (fun K hK => ?_)
              refine goes_ Try.func17 (by kernel_rfl) rfl #[.agg #[.slice Ao91 t179.length co91, .slice Ao92 t182.length co92, .slice Ao93 t185.length co93, .slice Ao94 t188.length co94, .slice Ao95 t191.length co95], .agg #[.slice Ao96 t194.length co96, .slice Ao97 t197.length co97, .slice Ao98 t200.length co98, .slice Ao99 t203.length co99, .slice Ao100 t206.length co100]] (by rfl) rfl rfl (by (try simp only [List.map_toArray, List.map_cons, List.map_nil]); first | done | rfl | (simp only [List.length_drop, List.length_take]; rfl)) ?_
              with_reducible refine (longcaseref06_Same.calls _ _ t179 _ _ t182 _ _ t185 _ _ t188 _ _ t191 _ _ t194 _ _ t197 _ _ t200 _ _ t203 _ _ t206 true _ ?side1 ?side2 ?side3 ?side4 ?side5 ?side6 ?side7 ?side8 ?side9 ?side10 ?side11 ?side12 ?side13 ?side14 ?side15 ?side16 ?side17 ?side18 ?side19 ?side20 A43.out).mono ?_
              (case side1 => exact Sq.qc HO181)
              (case side2 => exact Sq.ql HO181)
              (case side3 => exact Sq.qc HO184)
              (case side4 => exact Sq.ql HO184)
              (case side5 => exact Sq.qc HO187)
              (case side6 => exact Sq.ql HO187)
              (case side7 => exact Sq.qc HO190)
              (case side8 => exact Sq.ql HO190)
              (case side9 => exact Sq.qc HO193)
              (case side10 => exact Sq.ql HO193)
              (case side11 => exact Sq.qc HO196)
              (case side12 => exact Sq.ql HO196)
              (case side13 => exact Sq.qc HO199)
              (case side14 => exact Sq.ql HO199)
              (case side15 => exact Sq.qc HO202)
              (case side16 => exact Sq.ql HO202)
              (case side17 => exact Sq.qc HO205)
              (case side18 => exact Sq.ql HO205)
              (case side19 => exact Sq.qc HO208)
              (case side20 => exact Sq.ql HO208)
              rintro e w101 ⟨rfl, hb⟩
              refine ⟨_, rfl, ?_⟩
              have n0_ := krb HO_102000 hb
              have n1_ := krb HO_102001 hb
              have n2_ := krb HO_102002 hb
              have n3_ := krb HO_102003 hb
              have n4_ := krb HO_102004 hb
              have n5_ := krb HO121 hb
              have n6_ := krb HO140 hb
              have n7_ := krb HO143 hb
              have n8_ := krb HO146 hb
              have n9_ := krb HO149 hb
              have n10_ := krb HO152 hb
              have n11_ := krb HO155 hb
              have n12_ := krb HO164 hb
              have n13_ := krb HO167 hb
              have n14_ := krb HO170 hb
              have n15_ := krb HO173 hb
              have n16_ := krb HO176 hb
              have n17_ := krb HO181 hb
              have n18_ := krb HO184 hb
              have n19_ := krb HO187 hb
              have n20_ := krb HO190 hb
              have n21_ := krb HO193 hb
              have n22_ := krb HO196 hb
              have n23_ := krb HO199 hb
              have n24_ := krb HO202 hb
              have n25_ := krb HO205 hb
              have n26_ := krb HO208 hb
              have n27_ := kbb BK101 hb
              have n28_ := kbb BK130 hb
              have n29_ := kbb BK157 hb
              have n30_ := kbb BK178 hb
              have n31_ := Aside0.mk (below_step (Sq.kl4 HB GE101 GE130 GE157 GE178) hb)
              clear HO_102000
              clear HO_102001
              clear HO_102002
              clear HO_102003
              clear HO_102004
              clear HO121
              clear HO140
              clear HO143
              clear HO146
              clear HO149
              clear HO152
              clear HO155
              clear HO164
              clear HO167
              clear HO170
              clear HO173
              clear HO176
              clear HO181
              clear HO184
              clear HO187
              clear HO190
              clear HO193
              clear HO196
              clear HO199
              clear HO202
              clear HO205
              clear HO208
              clear BK101
              clear BK130
              clear BK157
              clear BK178
              clear HB
              have HO_102000 := n0_
              have HO_102001 := n1_
              have HO_102002 := n2_
              have HO_102003 := n3_
              have HO_102004 := n4_
              have HO121 := n5_
              have HO140 := n6_
              have HO143 := n7_
              have HO146 := n8_
              have HO149 := n9_
              have HO152 := n10_
              have HO155 := n11_
              have HO164 := n12_
              have HO167 := n13_
              have HO170 := n14_
              have HO173 := n15_
              have HO176 := n16_
              have HO181 := n17_
              have HO184 := n18_
              have HO187 := n19_
              have HO190 := n20_
              have HO193 := n21_
              have HO196 := n22_
              have HO199 := n23_
              have HO202 := n24_
              have HO205 := n25_
              have HO208 := n26_
              have BK101 := n27_
              have BK130 := n28_
              have BK157 := n29_
              have BK178 := n30_
              have HB := n31_
              clear n0_ n1_ n2_ n3_ n4_ n5_ n6_ n7_ n8_ n9_ n10_ n11_ n12_ n13_ n14_ n15_ n16_ n17_ n18_ n19_ n20_ n21_ n22_ n23_ n24_ n25_ n26_ n27_ n28_ n29_ n30_ n31_
              (try clear hb)
              (try clear hb2)
              (try clear hk)
              (try clear hi)
              refine hK.out _ _ ⟨(blk_cell BK101.out 0).trans rfl, (blk_cell BK101.out 1).trans rfl, (blk_cell BK101.out 2).trans rfl, (blk_cell BK101.out 3).trans rfl, (blk_cell BK101.out 4).trans rfl, (blk_cell BK157.out 0).trans rfl, (blk_cell BK157.out 1).trans rfl, (blk_cell BK157.out 2).trans rfl, (blk_cell BK157.out 3).trans rfl, (blk_cell BK157.out 4).trans rfl⟩ (fun hHeld => ?_)
              clear hK K
              refine norm_ (a' := ?_) ?_ ?_
              rotate_left
              ·
               show Act.put _ (some 83) _ = _
               simp only [Act.put, List.setIfInBounds_toArray, List.set_cons_zero, List.set_cons_succ, i64_w, i32_w]
               rfl
              refine Sq.pu 11 (some 84) (bm 17 4095) HT_ ?_
              refine Sq.pu 12 (some 85) (bm 17 8191) HT_ ?_
              refine Sq.pu 13 (some 86) (bm 17 16383) HT_ ?_
              refine Sq.pu 14 (some 87) (bm 17 32767) HT_ ?_
              refine Sq.pu 15 (some 88) (bm 17 65535) HT_ ?_
              refine Sq.pu 16 (some 8) (bm 17 131071) HT_ ?_
              refine done_ (done_of HT_.out (by kernel_rfl)) ?_
              try go_wp2
              go_ret
              exact ⟨by first | rfl | (simp [errW_none, errW_some] <;> rfl) | (simp only [← hji7, ← hji35]; first | rfl | (simp [errW_none, errW_some] <;> rfl)) | (simp [*, errW_none, errW_some] <;> rfl), by repeat (first | (with_reducible first | exact HB.out | apply below_alloc | apply pw_below_drewN | apply below_drew1 | refine below_set ?_ GE101.out | refine below_set ?_ GE130.out | refine below_set ?_ GE157.out | refine below_set ?_ GE178.out) | exact HB.out)⟩
             ·
              replace c44 := Bool.eq_false_iff.mpr c44
              subst c44
              have H1 : (some false) = some r := by rw [if_neg (show ¬ (false = true) by decide)] at H; exact H
              clear H
              have H := H1
              clear H1
              exact Bool.noConfusion ((Option.some.inj H).trans HRT.out)
            ·
             rw [if_neg c40] at H
             have c40b0 : (t156 == 0) = false := beq_eq_false_iff_ne.mpr c40
             have c40b1 : (t156 != 0) = true := bne_iff_ne.mpr c40
             exact Bool.noConfusion ((Option.some.inj H).trans HRT.out)
           ·
            replace c39 := Bool.eq_false_iff.mpr c39
            subst c39
            have H1 : (some false) = some r := by rw [if_neg (show ¬ (false = true) by decide)] at H; exact H
            clear H
            have H := H1
            clear H1
            exact Bool.noConfusion ((Option.some.inj H).trans HRT.out)
          ·
           rw [if_neg c37] at H
           exact absurd H (by simp)
         ·
          rw [if_neg c36] at H
          exact absurd H (by simp)
        ·
         rw [if_neg c33] at H
         exact absurd H (by simp)
       ·
        rw [if_neg c32] at H
        exact absurd H (by simp)
     ·
      rw [if_neg c24] at H
      have c24b0 : (t129 == 0) = false := beq_eq_false_iff_ne.mpr c24
      have c24b1 : (t129 != 0) = true := bne_iff_ne.mpr c24
      by_cases c247 : t102 = true
      ·
       subst c247
       have H1 : ((block_Right.f t103 t106 t109 t112 t115 x10_9 (wrap64 (1 + (Go.bits .and .i64 a2 3)))).bind fun t131 => (some (!t131))) = some r := by rw [if_pos rfl] at H; exact H
       clear H
       have H := H1
       clear H1
       replace H := Option.bind_eq_some_iff.mp H
       obtain ⟨t131, A2480, H⟩ := H
       replace H : (some (!t131)) = some r := H
       have A248 := Aside0.mk A2480
       clear A2480
       obtain rfl := Option.some.inj H
       have hcz249_0 := kc BK101 0 rfl
       have hcz249_1 := kc BK101 1 rfl
       have hcz249_2 := kc BK101 2 rfl
       have hcz249_3 := kc BK101 3 rfl
       have hcz249_4 := kc BK101 4 rfl
       have hfz249_0 := blk_frozen BK101.out 0
       have hfz249_1 := blk_frozen BK101.out 1
       have hfz249_2 := blk_frozen BK101.out 2
       have hfz249_3 := blk_frozen BK101.out 3
       have hfz249_4 := blk_frozen BK101.out 4
       go_wp2_with (first | ((with_reducible refine gate_callee (f := 15) rfl ?_); refine goesL_ (some 34) rfl rfl Try.func15 (by kernel_rfl) rfl #[.agg #[.slice Ao15 t103.length co15, .slice Ao17 t106.length co17, .slice Ao18 t109.length co18, .slice Ao19 t112.length co19, .slice Ao20 t115.length co20], .int .i64 x10_9, .int .i64 (wrap64 (1 + (Go.bits .and .i64 a2 3)))] rfl (by (try simp only [List.map_toArray, List.map_cons, List.map_nil]); first | done | rfl | (simp only [List.length_drop, List.length_take]; rfl)) ?_; (with_reducible refine (block_Encode.calls _ _ t103 _ _ t106 _ _ t109 _ _ t112 _ _ t115 x10_9 (wrap64 (1 + (Go.bits .and .i64 a2 3))) t119 t122 t123 t124 t125 t126 t127 t128 t129 _ ?side1 ?side2 ?side3 ?side4 ?side5 ?side6 ?side7 ?side8 ?side9 ?side10 A23.out).mono ?_); (case side1 => exact Sq.qc HO_102000); (case side2 => exact Sq.ql HO_102000); (case side3 => exact Sq.qc HO_102001); (case side4 => exact Sq.ql HO_102001); (case side5 => exact Sq.qc HO_102002); (case side6 => exact Sq.ql HO_102002); (case side7 => exact Sq.qc HO_102003); (case side8 => exact Sq.ql HO_102003); (case side9 => exact Sq.qc HO_102004); (case side10 => exact Sq.ql HO_102004); rintro e w250 ⟨v120, rfl, ho0, hb⟩; refine ⟨_, rfl, ?_⟩; have n0_ := krb HO_102000 hb; have n1_ := krb HO_102001 hb; have n2_ := krb HO_102002 hb; have n3_ := krb HO_102003 hb; have n4_ := krb HO_102004 hb; have n5_ := Aside0.mk (Kd.R_lower ho0 (below_size (Sq.kl1 HB GE101))); have n6_ := kbb BK101 hb; have n7_ := Aside0.mk (below_step (Sq.kl1 HB GE101) hb); clear HO_102000; clear HO_102001; clear HO_102002; clear HO_102003; clear HO_102004; clear BK101; clear HB; have HO_102000 := n0_; have HO_102001 := n1_; have HO_102002 := n2_; have HO_102003 := n3_; have HO_102004 := n4_; have HO121 := n5_; have BK101 := n6_; have HB := n7_; clear n0_ n1_ n2_ n3_ n4_ n5_ n6_ n7_; (try clear hb); (try clear hb2); (try clear hk); (try clear hi); (try clear ho0)) | ((with_reducible refine gate_dst (N := 12) rfl ?_); refine box_event ?hg (N := 12) ?hd (cs := #[.int .i64 0, .int .i64 0, .int .i64 0, .int .i64 0, .int .i64 0, .int .i64 0, .int .i64 0]) (t := 35) ?hr ?_; (case hd => rfl); (case hg => rfl); (case hr => first | (go_simp; done) | (go_simp; rfl)); intro gb130 hg w251 hbox hb; have n0_ := krb HO_102000 hb; have n1_ := krb HO_102001 hb; have n2_ := krb HO_102002 hb; have n3_ := krb HO_102003 hb; have n4_ := krb HO_102004 hb; have n5_ := krb HO121 hb; have n6_ := kbb BK101 hb; have n7_ := Aside0.mk (below_step (Sq.kl1 HB GE101) hb); have n8_ := Aside0.mk (hbox); have n9_ := Aside0.mk ((by rw [hg]; exact (below_size (Sq.kl1 HB GE101)) : w.heap.size ≤ gb130)); have n10_ := Aside0.mk ((by rw [hg]; exact (below_size (Sq.kl1 HB GE101)) : w.heap.size ≤ gb130)); have n11_ := Aside0.mk ((by rw [hg]; exact Nat.ne_of_lt (blk_lt (kb BK101)) : gb101 ≠ gb130)); have n12_ := Aside0.mk ((by rw [hg]; exact Nat.ne_of_gt (blk_lt (kb BK101)) : gb130 ≠ gb101)); clear HO_102000; clear HO_102001; clear HO_102002; clear HO_102003; clear HO_102004; clear HO121; clear BK101; clear HB; have HO_102000 := n0_; have HO_102001 := n1_; have HO_102002 := n2_; have HO_102003 := n3_; have HO_102004 := n4_; have HO121 := n5_; have BK101 := n6_; have HB := n7_; have BK130 := n8_; have GW130 := n9_; have GE130 := n10_; have NB101_130 := n11_; have NB130_101 := n12_; clear n0_ n1_ n2_ n3_ n4_ n5_ n6_ n7_ n8_ n9_ n10_ n11_ n12_; clear hb hbox hg; have hnb252 := NB130_101.out; have hnc252 := NB101_130.out; have hcz253_0 := kc BK130 0 rfl; have hcz253_1 := kc BK130 1 rfl; have hcz253_2 := kc BK130 2 rfl; have hcz253_3 := kc BK130 3 rfl; have hcz253_4 := kc BK130 4 rfl; have hcz253_5 := kc BK130 5 rfl; have hcz253_6 := kc BK130 6 rfl; have hfz253_0 := blk_frozen BK130.out 0; have hfz253_1 := blk_frozen BK130.out 1; have hfz253_2 := blk_frozen BK130.out 2; have hfz253_3 := blk_frozen BK130.out 3; have hfz253_4 := blk_frozen BK130.out 4; have hfz253_5 := blk_frozen BK130.out 5; have hfz253_6 := blk_frozen BK130.out 6; have hcz254_0 := kc BK101 0 rfl; have hcz254_1 := kc BK101 1 rfl; have hcz254_2 := kc BK101 2 rfl; have hcz254_3 := kc BK101 3 rfl; have hcz254_4 := kc BK101 4 rfl; have hfz254_0 := blk_frozen BK101.out 0; have hfz254_1 := blk_frozen BK101.out 1; have hfz254_2 := blk_frozen BK101.out 2; have hfz254_3 := blk_frozen BK101.out 3; have hfz254_4 := blk_frozen BK101.out 4) | (go_at_call 16; (with_reducible refine (block_Right.calls _ _ t103 _ _ t106 _ _ t109 _ _ t112 _ _ t115 x10_9 (wrap64 (1 + (Go.bits .and .i64 a2 3))) t131 _ ?side1 ?side2 ?side3 ?side4 ?side5 ?side6 ?side7 ?side8 ?side9 ?side10 A248.out).mono ?_); (case side1 => refine (Kd.R_reads' (e := 56) (base := w.heap.size) (ok := fun k_ => True) (n := t103.length) (c := co15) ?_).2.2; exact (by (with_reducible repeat (first | apply Kd.R_alloc | apply Kd.R_drewN | apply Kd.R_drew)); exact (rp7 HO_102000 BK130))); (case side2 => exact Sq.ql HO_102000); (case side3 => refine (Kd.R_reads' (e := 54) (base := w.heap.size) (ok := fun k_ => True) (n := t106.length) (c := co17) ?_).2.2; exact (by (with_reducible repeat (first | apply Kd.R_alloc | apply Kd.R_drewN | apply Kd.R_drew)); exact (rp7 HO_102001 BK130))); (case side4 => exact Sq.ql HO_102001); (case side5 => refine (Kd.R_reads' (e := 67) (base := w.heap.size) (ok := fun k_ => True) (n := t109.length) (c := co18) ?_).2.2; exact (by (with_reducible repeat (first | apply Kd.R_alloc | apply Kd.R_drewN | apply Kd.R_drew)); exact (rp7 HO_102002 BK130))); (case side6 => exact Sq.ql HO_102002); (case side7 => refine (Kd.R_reads' (e := 4) (base := w.heap.size) (ok := fun k_ => some k_ ≠ (.slice Ao20 t115.length co20 : Value).ownBlock) (n := t112.length) (c := co19) ?_).2.2; exact (by (with_reducible repeat (first | apply Kd.R_alloc | apply Kd.R_drewN | apply Kd.R_drew)); exact (rp7 HO_102003 BK130))); (case side8 => exact Sq.ql HO_102003); (case side9 => refine (Kd.R_reads' (e := 4) (base := w.heap.size) (ok := fun k_ => some k_ ≠ (.slice Ao19 t112.length co19 : Value).ownBlock) (n := t115.length) (c := co20) ?_).2.2; exact (by (with_reducible repeat (first | apply Kd.R_alloc | apply Kd.R_drewN | apply Kd.R_drew)); exact (rp7 HO_102004 BK130))); (case side10 => exact Sq.ql HO_102004); rintro e w255 ⟨rfl, hb⟩; have n0_ := Aside0.mk (Kd.R_below (by (with_reducible repeat (first | apply Kd.R_alloc | apply Kd.R_drewN | apply Kd.R_drew)); exact (rp7 HO_102000 BK130)) hb); have n1_ := Aside0.mk (Kd.R_below (by (with_reducible repeat (first | apply Kd.R_alloc | apply Kd.R_drewN | apply Kd.R_drew)); exact (rp7 HO_102001 BK130)) hb); have n2_ := Aside0.mk (Kd.R_below (by (with_reducible repeat (first | apply Kd.R_alloc | apply Kd.R_drewN | apply Kd.R_drew)); exact (rp7 HO_102002 BK130)) hb); have n3_ := Aside0.mk (Kd.R_below (by (with_reducible repeat (first | apply Kd.R_alloc | apply Kd.R_drewN | apply Kd.R_drew)); exact (rp7 HO_102003 BK130)) hb); have n4_ := Aside0.mk (Kd.R_below (by (with_reducible repeat (first | apply Kd.R_alloc | apply Kd.R_drewN | apply Kd.R_drew)); exact (rp7 HO_102004 BK130)) hb); have n5_ := Aside0.mk (Kd.R_below (by (with_reducible repeat (first | apply Kd.R_alloc | apply Kd.R_drewN | apply Kd.R_drew)); exact (rp7 HO121 BK130)) hb); have n6_ := Aside0.mk (blk_below (g := gb101) (o := .cells #[.slice Ao15 t103.length co15, .slice Ao17 t106.length co17, .slice Ao18 t109.length co18, .slice Ao19 t112.length co19, .slice Ao20 t115.length co20] 27 (0, 0)) (by (with_reducible repeat (first | refine blk_drewN ?_ _ | refine blk_drew ?_ | refine blk_alloc ?_ _)); refine blk_far ?_ NB101_130.out _; (with_reducible repeat (first | refine blk_drewN ?_ _ | refine blk_drew ?_ | refine blk_alloc ?_ _)); refine blk_far ?_ NB101_130.out _; (with_reducible repeat (first | refine blk_drewN ?_ _ | refine blk_drew ?_ | refine blk_alloc ?_ _)); refine blk_far ?_ NB101_130.out _; (with_reducible repeat (first | refine blk_drewN ?_ _ | refine blk_drew ?_ | refine blk_alloc ?_ _)); refine blk_far ?_ NB101_130.out _; (with_reducible repeat (first | refine blk_drewN ?_ _ | refine blk_drew ?_ | refine blk_alloc ?_ _)); refine blk_far ?_ NB101_130.out _; (with_reducible repeat (first | refine blk_drewN ?_ _ | refine blk_drew ?_ | refine blk_alloc ?_ _)); refine blk_far ?_ NB101_130.out _; (with_reducible repeat (first | refine blk_drewN ?_ _ | refine blk_drew ?_ | refine blk_alloc ?_ _)); refine blk_far ?_ NB101_130.out _; (with_reducible repeat (first | refine blk_drewN ?_ _ | refine blk_drew ?_ | refine blk_alloc ?_ _)); exact BK101.out) hb); have n7_ := Aside0.mk (blk_below (g := gb130) (o := .cells #[.int .i64 t122, .int .i64 t123, .int .i64 t124, .int .i64 t125, .int .i64 t126, .int .i64 t127, .int .i64 t128] 35 (0, 0)) (by (with_reducible repeat (first | refine blk_drewN ?_ _ | refine blk_drew ?_ | refine blk_alloc ?_ _)); refine blk_put (cs := #[.int .i64 t122, .int .i64 t123, .int .i64 t124, .int .i64 t125, .int .i64 t126, .int .i64 t127, .int .i64 0]) ?_ 6 _ rfl; (with_reducible repeat (first | refine blk_drewN ?_ _ | refine blk_drew ?_ | refine blk_alloc ?_ _)); refine blk_put (cs := #[.int .i64 t122, .int .i64 t123, .int .i64 t124, .int .i64 t125, .int .i64 t126, .int .i64 0, .int .i64 0]) ?_ 5 _ rfl; (with_reducible repeat (first | refine blk_drewN ?_ _ | refine blk_drew ?_ | refine blk_alloc ?_ _)); refine blk_put (cs := #[.int .i64 t122, .int .i64 t123, .int .i64 t124, .int .i64 t125, .int .i64 0, .int .i64 0, .int .i64 0]) ?_ 4 _ rfl; (with_reducible repeat (first | refine blk_drewN ?_ _ | refine blk_drew ?_ | refine blk_alloc ?_ _)); refine blk_put (cs := #[.int .i64 t122, .int .i64 t123, .int .i64 t124, .int .i64 0, .int .i64 0, .int .i64 0, .int .i64 0]) ?_ 3 _ rfl; (with_reducible repeat (first | refine blk_drewN ?_ _ | refine blk_drew ?_ | refine blk_alloc ?_ _)); refine blk_put (cs := #[.int .i64 t122, .int .i64 t123, .int .i64 0, .int .i64 0, .int .i64 0, .int .i64 0, .int .i64 0]) ?_ 2 _ rfl; (with_reducible repeat (first | refine blk_drewN ?_ _ | refine blk_drew ?_ | refine blk_alloc ?_ _)); refine blk_put (cs := #[.int .i64 t122, .int .i64 0, .int .i64 0, .int .i64 0, .int .i64 0, .int .i64 0, .int .i64 0]) ?_ 1 _ rfl; (with_reducible repeat (first | refine blk_drewN ?_ _ | refine blk_drew ?_ | refine blk_alloc ?_ _)); refine blk_put (cs := #[.int .i64 0, .int .i64 0, .int .i64 0, .int .i64 0, .int .i64 0, .int .i64 0, .int .i64 0]) ?_ 0 _ rfl; (with_reducible repeat (first | refine blk_drewN ?_ _ | refine blk_drew ?_ | refine blk_alloc ?_ _)); exact BK130.out) hb); have n8_ := Aside0.mk (below_step (Sq.kl2 HB GE101 GE130) hb); clear HO_102000; clear HO_102001; clear HO_102002; clear HO_102003; clear HO_102004; clear HO121; clear BK101; clear BK130; clear HB; have HO_102000 := n0_; have HO_102001 := n1_; have HO_102002 := n2_; have HO_102003 := n3_; have HO_102004 := n4_; have HO121 := n5_; have BK101 := n6_; have BK130 := n7_; have HB := n8_; clear n0_ n1_ n2_ n3_ n4_ n5_ n6_ n7_ n8_; (try clear hb); (try clear hb2); (try clear hk); (try clear hi)))
       go_ret
       exact ⟨by first | rfl | (simp [errW_none, errW_some] <;> rfl) | (simp only [← hji7]; first | rfl | (simp [errW_none, errW_some] <;> rfl)) | (simp [*, errW_none, errW_some] <;> rfl), by repeat (first | (with_reducible first | exact HB.out | apply below_alloc | apply pw_below_drewN | apply below_drew1 | refine below_set ?_ GE101.out | refine below_set ?_ GE130.out) | exact HB.out)⟩
      ·
       replace c247 := Bool.eq_false_iff.mpr c247
       subst c247
       have H1 : (some false) = some r := by rw [if_neg (show ¬ (false = true) by decide)] at H; exact H
       clear H
       have H := H1
       clear H1
       exact Bool.noConfusion ((Option.some.inj H).trans HRT.out)
  ·
   rw [if_neg c9] at H
   exact absurd H (by simp)
 ·
  rw [if_neg c8] at H
  exact absurd H (by simp)
end Go.Proofs.Ythobnoknbdljgaa.PL3
end
