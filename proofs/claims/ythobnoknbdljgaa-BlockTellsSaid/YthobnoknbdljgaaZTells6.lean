/- What the claim needs of its texts, one behind the other (laid by a program of the session's). -/
import Derived.Test.YthobnoknbdljgaaZTells5
import Derived.Lib.SmallJoins
import Derived.Deep.Slices
import Derived.Deep.Strs
import Derived.Deep.Fields
import Derived.ChangeSame
section
namespace Go.Proofs.Ythobnoknbdljgaa.PL6
open Go.Proofs.Ythobnoknbdljgaa.PB0 Sq
open Go.RowKit Go.Proofs.Ythobnoknbdljgaa.Stub2 Go.Proofs.Ythobnoknbdljgaa.Stub Go.Proofs.Ythobnoknbdljgaa.Hand Go.Proofs.YthobnoknbdljgaaW.PrintWords Go.Proofs.YthobnoknbdljgaaW.PrintLast Go.Proofs.YthobnoknbdljgaaW.PrintMore
attribute [local go_sem] max2_int min2_int max_two min_two
set_option linter.unusedVariables false
set_option linter.unusedSimpArgs false
attribute [local go_sem high] eqA35
mutual
def longcaselaw06_BlockTells.j0 : Nat → Int → Int → Bool → Bool → List Int → Int → Bool → List (S56) → List (S54) → List (S67) → List Bool → List Bool → Int → Int → Int → Int → Int → Int → Int → Option (Bool)
 | 0, _, _, _, _, _, _, _, _, _, _, _, _, _, _, _, _, _, _, _ => none
 | k + 1, x1, x2, x7, x9, x10, x12, x46, x102000, x102001, x102002, x102003, x102004, x162000, x162001, x162002, x162003, x162004, x162005, x162006 => if x46 = true then (some false) else (if x9 = true then (if x2 < 1 then (longcaselaw06_BlockTells.j1 k x1 x2 x7 x10 x12 true x102000 x102001 x102002 x102003 x102004 x162000 x162001 x162002 x162003 x162004 x162005 x162006) else (longcaselaw06_BlockTells.j1 k x1 x2 x7 x10 x12 (decide (x2 > 4)) x102000 x102001 x102002 x102003 x102004 x162000 x162001 x162002 x162003 x162004 x162005 x162006)) else (longcaselaw06_BlockTells.j1 k x1 x2 x7 x10 x12 true x102000 x102001 x102002 x102003 x102004 x162000 x162001 x162002 x162003 x162004 x162005 x162006))
def longcaselaw06_BlockTells.j1 : Nat → Int → Int → Bool → List Int → Int → Bool → List (S56) → List (S54) → List (S67) → List Bool → List Bool → Int → Int → Int → Int → Int → Int → Int → Option (Bool)
 | 0, _, _, _, _, _, _, _, _, _, _, _, _, _, _, _, _, _, _ => none
 | k + 1, x1, x2, x7, x10, x12, x56, x102000, x102001, x102002, x102003, x102004, x162000, x162001, x162002, x162003, x162004, x162005, x162006 => if x56 = true then (if x7 = true then (if x12 = 1 then (if (x10.length : Int) = 0 then (some (x162000 == 0 && (x162001 == 0 && (x162002 == 0 && (x162003 == 0 && (x162004 == 0 && (x162005 == 0 && (x162006 == 0)))))))) else (some false)) else (some false)) else (some false)) else ((longcaselaw06_ref.f x102000 x102001 x102002 x102003 x102004).bind fun bt194 => ((longcaseref06_Encode.f bt194.1 bt194.2.1 bt194.2.2.1 bt194.2.2.2.1 bt194.2.2.2.2 x1 x2).bind fun bt209 => (if x7 = true then (if x12 = 0 then (if (strOfNums x10).toList = (strOfNums bt209.1).toList then (if (x162000 == bt209.2.1 && (x162001 == bt209.2.2.1 && (x162002 == bt209.2.2.2.1 && (x162003 == bt209.2.2.2.2.1 && (x162004 == bt209.2.2.2.2.2.1 && (x162005 == bt209.2.2.2.2.2.2.1 && (x162006 == bt209.2.2.2.2.2.2.2))))))) = true then ((header_Right.f x162000 x162001 x162002 x162003 x162004 x162005 x162006).bind fun t220 => (if t220 = true then ((header_Body.f x162000 x162001 x162002 x162003 x162004 x162005 x162006 x1).bind fun t221 => (some (t221 == (x10.length : Int)))) else (some false))) else (some false)) else (some false)) else (some false)) else (some false))))
end
def longcaselaw06_BlockTells.f (k : Nat) (l0_0 : List (S56)) (l0_1 : List (S54)) (l0_2 : List (S67)) (l0_3 : List Bool) (l0_4 : List Bool) (a1 : Int) (a2 : Int) : Option (Bool) := (longcaselaw06_shown.f).bind fun t102 => ((longcaselaw06_few.f l0_0 l0_1 l0_2 l0_3 l0_4).bind fun bt103 => ((longcaselaw06_few.f bt103.1 bt103.2.1 bt103.2.2.1 bt103.2.2.2.1 bt103.2.2.2.2).bind fun bt118 => ((longcaselaw06_ref.f bt103.1 bt103.2.1 bt103.2.2.1 bt103.2.2.2.1 bt103.2.2.2.2).bind fun bt134 => ((longcaseref06_Right.f bt134.1 bt134.2.1 bt134.2.2.1 bt134.2.2.2.1 bt134.2.2.2.2 a1 a2).bind fun t149 => ((block_Encode.f bt103.1 bt103.2.1 bt103.2.2.1 bt103.2.2.2.1 bt103.2.2.2.2 a1 a2).bind fun bt150 => ((block_Right.f bt103.1 bt103.2.1 bt103.2.2.1 bt103.2.2.2.1 bt103.2.2.2.2 a1 a2).bind fun t162 => (if (t162 != t149) = true then (longcaselaw06_BlockTells.j0 k a1 a2 t102 t149 bt150.1 bt150.2.2.2.2.2.2.2.2 true bt103.1 bt103.2.1 bt103.2.2.1 bt103.2.2.2.1 bt103.2.2.2.2 bt150.2.1 bt150.2.2.1 bt150.2.2.2.1 bt150.2.2.2.2.1 bt150.2.2.2.2.2.1 bt150.2.2.2.2.2.2.1 bt150.2.2.2.2.2.2.2.1) else ((longcaselaw06_ref.f bt103.1 bt103.2.1 bt103.2.2.1 bt103.2.2.2.1 bt103.2.2.2.2).bind fun bt163 => ((longcaselaw06_ref.f bt118.1 bt118.2.1 bt118.2.2.1 bt118.2.2.2.1 bt118.2.2.2.2).bind fun bt178 => ((longcaseref06_Same.f bt163.1 bt163.2.1 bt163.2.2.1 bt163.2.2.2.1 bt163.2.2.2.2 bt178.1 bt178.2.1 bt178.2.2.1 bt178.2.2.2.1 bt178.2.2.2.2).bind fun t193 => (longcaselaw06_BlockTells.j0 k a1 a2 t102 t149 bt150.1 bt150.2.2.2.2.2.2.2.2 (!t193) bt103.1 bt103.2.1 bt103.2.2.1 bt103.2.2.2.1 bt103.2.2.2.2 bt150.2.1 bt150.2.2.1 bt150.2.2.2.1 bt150.2.2.2.2.1 bt150.2.2.2.2.2.1 bt150.2.2.2.2.2.2.1 bt150.2.2.2.2.2.2.2.1)))))))))))
def longcaselaw06_BlockTells.T6 : Bool × List (List Nat × List Nat) := (true, [([], []), ([], []), ([], []), ([0, 1, 2], [0, 1, 2]), ([], []), ([3, 4], [3, 4]), ([5, 3], [5]), ([6], [6]), ([7, 6, 6], [6, 7]), ([6], [6]), ([9, 8, 6], [6, 9]), ([8, 10, 10, 6], [6, 8, 10]), ([11, 6], [6, 11]), ([6, 12], [6, 12])])
def longcaselaw06_BlockTells.B6 : List Nat := [0, 0, 0, 7, 0, 31, 63, 127, 255, 127, 1023, 2047, 4095, 8191]
theorem longcaselaw06_BlockTells.tab6 : rtab .any (opsOf Try.f3 6) = longcaselaw06_BlockTells.T6 := by kernel_rfl
theorem longcaselaw06_BlockTells.bits6 : waitsOk longcaselaw06_BlockTells.T6.2 longcaselaw06_BlockTells.B6 = true := by kernel_rfl
set_option maxHeartbeats 8000000 in
set_option maxRecDepth 100000 in
theorem longcaselaw06_BlockTells.calls (k : Nat) (A0_0 : Option Addr) (c0_0 : Nat) (l0_0 : List (S56)) (A0_1 : Option Addr) (c0_1 : Nat) (l0_1 : List (S54)) (A0_2 : Option Addr) (c0_2 : Nat) (l0_2 : List (S67)) (A0_3 : Option Addr) (c0_3 : Nat) (l0_3 : List Bool) (A0_4 : Option Addr) (c0_4 : Nat) (l0_4 : List Bool) (a1 : Int) (a2 : Int) (r : Bool) (w : World) (hr0_0 : Kd.C k56 w A0_0 l0_0.length l0_0) (hc0_0 : l0_0.length ≤ c0_0) (hr0_1 : Kd.C k54 w A0_1 l0_1.length l0_1) (hc0_1 : l0_1.length ≤ c0_1) (hr0_2 : Kd.C k67 w A0_2 l0_2.length l0_2) (hc0_2 : l0_2.length ≤ c0_2) (hr0_3 : Kd.C Kd.bool w A0_3 l0_3.length l0_3) (hc0_3 : l0_3.length ≤ c0_3) (hr0_4 : Kd.C Kd.bool w A0_4 l0_4.length l0_4) (hc0_4 : l0_4.length ≤ c0_4) (h : longcaselaw06_BlockTells.f k l0_0 l0_1 l0_2 l0_3 l0_4 a1 a2 = some r) (hRT : r = true) :
  Calls Try.prog 3 #[.agg #[.slice A0_0 l0_0.length c0_0, .slice A0_1 l0_1.length c0_1, .slice A0_2 l0_2.length c0_2, .slice A0_3 l0_3.length c0_3, .slice A0_4 l0_4.length c0_4], .int .i64 a1, .int .i64 a2] w fun e w' => e = .returned (.bool r) ∧ Below w.heap.size w w' := by
 have HRT := Aside0.mk hRT
 clear hRT
 have hu27 := Try.underlying27
 have hu35 := Try.underlying35
 have hu41 := Try.underlying41
 have HR0_0 := Aside0.mk hr0_0
 have HC0_0 := Aside0.mk hc0_0
 clear hr0_0 hc0_0
 have HR0_1 := Aside0.mk hr0_1
 have HC0_1 := Aside0.mk hc0_1
 clear hr0_1 hc0_1
 have HR0_2 := Aside0.mk hr0_2
 have HC0_2 := Aside0.mk hc0_2
 clear hr0_2 hc0_2
 have HR0_3 := Aside0.mk hr0_3
 have HC0_3 := Aside0.mk hc0_3
 clear hr0_3 hc0_3
 have HR0_4 := Aside0.mk hr0_4
 have HC0_4 := Aside0.mk hc0_4
 clear hr0_4 hc0_4
 have HB := Aside0.mk (Below.refl w.heap.size w)
 have H : ((longcaselaw06_shown.f).bind fun t102 => ((longcaselaw06_few.f l0_0 l0_1 l0_2 l0_3 l0_4).bind fun bt103 => ((longcaselaw06_few.f bt103.1 bt103.2.1 bt103.2.2.1 bt103.2.2.2.1 bt103.2.2.2.2).bind fun bt118 => ((longcaselaw06_ref.f bt103.1 bt103.2.1 bt103.2.2.1 bt103.2.2.2.1 bt103.2.2.2.2).bind fun bt134 => ((longcaseref06_Right.f bt134.1 bt134.2.1 bt134.2.2.1 bt134.2.2.2.1 bt134.2.2.2.2 a1 a2).bind fun t149 => ((block_Encode.f bt103.1 bt103.2.1 bt103.2.2.1 bt103.2.2.2.1 bt103.2.2.2.2 a1 a2).bind fun bt150 => ((block_Right.f bt103.1 bt103.2.1 bt103.2.2.1 bt103.2.2.2.1 bt103.2.2.2.2 a1 a2).bind fun t162 => (if (t162 != t149) = true then (longcaselaw06_BlockTells.j0 k a1 a2 t102 t149 bt150.1 bt150.2.2.2.2.2.2.2.2 true bt103.1 bt103.2.1 bt103.2.2.1 bt103.2.2.2.1 bt103.2.2.2.2 bt150.2.1 bt150.2.2.1 bt150.2.2.2.1 bt150.2.2.2.2.1 bt150.2.2.2.2.2.1 bt150.2.2.2.2.2.2.1 bt150.2.2.2.2.2.2.2.1) else ((longcaselaw06_ref.f bt103.1 bt103.2.1 bt103.2.2.1 bt103.2.2.2.1 bt103.2.2.2.2).bind fun bt163 => ((longcaselaw06_ref.f bt118.1 bt118.2.1 bt118.2.2.1 bt118.2.2.2.1 bt118.2.2.2.2).bind fun bt178 => ((longcaseref06_Same.f bt163.1 bt163.2.1 bt163.2.2.1 bt163.2.2.2.1 bt163.2.2.2.2 bt178.1 bt178.2.1 bt178.2.2.1 bt178.2.2.2.1 bt178.2.2.2.2).bind fun t193 => (longcaselaw06_BlockTells.j0 k a1 a2 t102 t149 bt150.1 bt150.2.2.2.2.2.2.2.2 (!t193) bt103.1 bt103.2.1 bt103.2.2.1 bt103.2.2.2.1 bt103.2.2.2.2 bt150.2.1 bt150.2.2.1 bt150.2.2.2.1 bt150.2.2.2.2.1 bt150.2.2.2.2.2.1 bt150.2.2.2.2.2.2.1 bt150.2.2.2.2.2.2.2.1)))))))))))) = some r := h
 clear h
 replace H := Option.bind_eq_some_iff.mp H
 obtain ⟨t102, A40, H⟩ := H
 try dsimp only at H
 have A4 := Aside0.mk A40
 clear A40
 replace H := Option.bind_eq_some_iff.mp H
 obtain ⟨⟨t103, t106, t109, t112, t115⟩, A50, H⟩ := H
 try dsimp only at H
 have A5 := Aside0.mk A50
 clear A50
 replace H := Option.bind_eq_some_iff.mp H
 obtain ⟨⟨t118, t121, t124, t127, t130⟩, A60, H⟩ := H
 try dsimp only at H
 have A6 := Aside0.mk A60
 clear A60
 replace H := Option.bind_eq_some_iff.mp H
 obtain ⟨⟨t134, t137, t140, t143, t146⟩, A70, H⟩ := H
 try dsimp only at H
 have A7 := Aside0.mk A70
 clear A70
 replace H := Option.bind_eq_some_iff.mp H
 obtain ⟨t149, A80, H⟩ := H
 try dsimp only at H
 have A8 := Aside0.mk A80
 clear A80
 replace H := Option.bind_eq_some_iff.mp H
 obtain ⟨⟨t150, t153, t154, t155, t156, t157, t158, t159, t160⟩, A90, H⟩ := H
 try dsimp only at H
 have A9 := Aside0.mk A90
 clear A90
 have HC10 := Aside0.mk H
 clear H
 go_enter Try.func3, Try.ntmps3
 go_upto_region 6 with (first | ((with_reducible refine gate_dst (N := 3) rfl ?_); (try (refine gate_guard (by rfl) ?_; dsimp only)); refine box_event ?hg (N := 3) ?hd (cs := #[.slice A0_0 l0_0.length c0_0, .slice A0_1 l0_1.length c0_1, .slice A0_2 l0_2.length c0_2, .slice A0_3 l0_3.length c0_3, .slice A0_4 l0_4.length c0_4]) (t := 27) ?hr ?_; (case hd => rfl); (case hg => rfl); (case hr => first | (go_simp; done) | (go_simp; rfl)); intro gb101 hg w11 hbox hb; have BK101 := Aside0.mk (hbox); have GW101 := Aside0.mk ((by rw [hg]; exact (below_size (Sq.kl HB)) : w.heap.size ≤ gb101)); have GE101 := Aside0.mk ((by rw [hg]; exact (below_size (Sq.kl HB)) : w.heap.size ≤ gb101)); replace HB := Aside0.mk (below_step (Sq.kl HB) hb); clear hb hbox hg) | ((with_reducible refine gate_callee (f := 11) rfl ?_); refine goesL_ (some 15) rfl rfl Try.func11 (by kernel_rfl) rfl #[] rfl (by (try simp only [List.map_toArray, List.map_cons, List.map_nil]); first | done | rfl | (simp only [List.length_drop, List.length_take]; rfl)) ?_; (with_reducible refine (longcaselaw06_shown.calls  t102 _ A4.out).mono ?_); rintro e w12 ⟨rfl, hb⟩; refine ⟨_, rfl, ?_⟩; replace BK101 := kbb BK101 hb; replace HB := Aside0.mk (below_step (Sq.kl1 HB GE101) hb); (try clear hb); obtain ⟨hcz13_0, hcz13_1, hcz13_2, hcz13_3, hcz13_4⟩ := Sq.c5 BK101; obtain ⟨hfz13_0, hfz13_1, hfz13_2, hfz13_3, hfz13_4⟩ := Sq.z5 BK101) | ((with_reducible refine gate_callee (f := 12) rfl ?_); refine goesL_ (some 17) rfl rfl Try.func12 (by kernel_rfl) rfl #[.agg #[.slice A0_0 l0_0.length c0_0, .slice A0_1 l0_1.length c0_1, .slice A0_2 l0_2.length c0_2, .slice A0_3 l0_3.length c0_3, .slice A0_4 l0_4.length c0_4]] rfl (by (try simp only [List.map_toArray, List.map_cons, List.map_nil]); first | done | rfl | (simp only [List.length_drop, List.length_take]; rfl)) ?_; (with_reducible refine (longcaselaw06_few.calls _ _ l0_0 _ _ l0_1 _ _ l0_2 _ _ l0_3 _ _ l0_4 t103 t106 t109 t112 t115 _ ?side1 ?side2 ?side3 ?side4 ?side5 ?side6 ?side7 ?side8 ?side9 ?side10 A5.out).mono ?_); (case side1 => exact Sq.qd HR0_0 HB); (case side2 => exact HC0_0.out); (case side3 => exact Sq.qd HR0_1 HB); (case side4 => exact HC0_1.out); (case side5 => exact Sq.qd HR0_2 HB); (case side6 => exact HC0_2.out); (case side7 => exact Sq.qd HR0_3 HB); (case side8 => exact HC0_3.out); (case side9 => exact Sq.qd HR0_4 HB); (case side10 => exact HC0_4.out); rintro e w14 ⟨v104, v107, v110, v113, v116, rfl, ho0, ho1, ho2, ho3, ho4, hb⟩; refine ⟨_, rfl, ?_⟩; have HO105 := Aside0.mk (Kd.R_lower ho0 (below_size (Sq.kl1 HB GE101))); have HO108 := Aside0.mk (Kd.R_lower ho1 (below_size (Sq.kl1 HB GE101))); have HO111 := Aside0.mk (Kd.R_lower ho2 (below_size (Sq.kl1 HB GE101))); have HO114 := Aside0.mk (Kd.R_lower ho3 (below_size (Sq.kl1 HB GE101))); have HO117 := Aside0.mk (Kd.R_lower ho4 (below_size (Sq.kl1 HB GE101))); replace BK101 := kbb BK101 hb; replace HB := Aside0.mk (below_step (Sq.kl1 HB GE101) hb); (try clear hb); (try clear ho0); (try clear ho1); (try clear ho2); (try clear ho3); (try clear ho4); obtain ⟨Ao15, co15, eo15⟩ := Kd.R_slice HO105.out; subst eo15; obtain ⟨hcz16_0, hcz16_1, hcz16_2, hcz16_3, hcz16_4⟩ := Sq.c5 BK101; obtain ⟨hfz16_0, hfz16_1, hfz16_2, hfz16_3, hfz16_4⟩ := Sq.z5 BK101; obtain ⟨Ao17, co17, eo17⟩ := Kd.R_slice HO108.out; subst eo17; obtain ⟨Ao18, co18, eo18⟩ := Kd.R_slice HO111.out; subst eo18; obtain ⟨Ao19, co19, eo19⟩ := Kd.R_slice HO114.out; subst eo19; obtain ⟨Ao20, co20, eo20⟩ := Kd.R_slice HO117.out; subst eo20) | ((with_reducible refine gate_callee (f := 12) rfl ?_); refine goesL_ (some 19) rfl rfl Try.func12 (by kernel_rfl) rfl #[.agg #[.slice Ao15 t103.length co15, .slice Ao17 t106.length co17, .slice Ao18 t109.length co18, .slice Ao19 t112.length co19, .slice Ao20 t115.length co20]] rfl (by (try simp only [List.map_toArray, List.map_cons, List.map_nil]); first | done | rfl | (simp only [List.length_drop, List.length_take]; rfl)) ?_; (with_reducible refine (longcaselaw06_few.calls _ _ t103 _ _ t106 _ _ t109 _ _ t112 _ _ t115 t118 t121 t124 t127 t130 _ ?side1 ?side2 ?side3 ?side4 ?side5 ?side6 ?side7 ?side8 ?side9 ?side10 A6.out).mono ?_); (case side1 => refine (Kd.R_reads' (e := 56) (base := w.heap.size) (ok := fun k_ => True) (n := t103.length) (c := co15) ?_).2.2; exact (by (with_reducible repeat (first | apply Kd.R_alloc | apply Kd.R_drewN | apply Kd.R_drew)); exact (rp5 HO105 BK101))); (case side2 => exact Sq.ql HO105); (case side3 => refine (Kd.R_reads' (e := 54) (base := w.heap.size) (ok := fun k_ => True) (n := t106.length) (c := co17) ?_).2.2; exact (by (with_reducible repeat (first | apply Kd.R_alloc | apply Kd.R_drewN | apply Kd.R_drew)); exact (rp5 HO108 BK101))); (case side4 => exact Sq.ql HO108); (case side5 => refine (Kd.R_reads' (e := 67) (base := w.heap.size) (ok := fun k_ => True) (n := t109.length) (c := co18) ?_).2.2; exact (by (with_reducible repeat (first | apply Kd.R_alloc | apply Kd.R_drewN | apply Kd.R_drew)); exact (rp5 HO111 BK101))); (case side6 => exact Sq.ql HO111); (case side7 => refine (Kd.R_reads' (e := 4) (base := w.heap.size) (ok := fun k_ => some k_ ≠ (.slice Ao20 t115.length co20 : Value).ownBlock) (n := t112.length) (c := co19) ?_).2.2; exact (by (with_reducible repeat (first | apply Kd.R_alloc | apply Kd.R_drewN | apply Kd.R_drew)); exact (rp5 HO114 BK101))); (case side8 => exact Sq.ql HO114); (case side9 => refine (Kd.R_reads' (e := 4) (base := w.heap.size) (ok := fun k_ => some k_ ≠ (.slice Ao19 t112.length co19 : Value).ownBlock) (n := t115.length) (c := co20) ?_).2.2; exact (by (with_reducible repeat (first | apply Kd.R_alloc | apply Kd.R_drewN | apply Kd.R_drew)); exact (rp5 HO117 BK101))); (case side10 => exact Sq.ql HO117); rintro e w21 ⟨v119, v122, v125, v128, v131, rfl, ho0, ho1, ho2, ho3, ho4, hb⟩; refine ⟨_, rfl, ?_⟩; have HO120 := Aside0.mk (Kd.R_lower (Kd.R_new' ho0 (Kd.R_lt (by (with_reducible repeat (first | apply Kd.R_alloc | apply Kd.R_drewN | apply Kd.R_drew)); exact (rp5 HO105 BK101)))) (below_size (Sq.kl1 HB GE101))); replace HO105 := Aside0.mk (Kd.R_elder' (by (with_reducible repeat (first | apply Kd.R_alloc | apply Kd.R_drewN | apply Kd.R_drew)); exact (rp5 HO105 BK101)) (Kd.R_base ho0) hb); have HO123 := Aside0.mk (Kd.R_lower (Kd.R_new' ho1 (Kd.R_lt (by (with_reducible repeat (first | apply Kd.R_alloc | apply Kd.R_drewN | apply Kd.R_drew)); exact (rp5 HO108 BK101)))) (below_size (Sq.kl1 HB GE101))); replace HO108 := Aside0.mk (Kd.R_elder' (by (with_reducible repeat (first | apply Kd.R_alloc | apply Kd.R_drewN | apply Kd.R_drew)); exact (rp5 HO108 BK101)) (Kd.R_base ho1) hb); have HO126 := Aside0.mk (Kd.R_lower (Kd.R_new' ho2 (Kd.R_lt (by (with_reducible repeat (first | apply Kd.R_alloc | apply Kd.R_drewN | apply Kd.R_drew)); exact (rp5 HO111 BK101)))) (below_size (Sq.kl1 HB GE101))); replace HO111 := Aside0.mk (Kd.R_elder' (by (with_reducible repeat (first | apply Kd.R_alloc | apply Kd.R_drewN | apply Kd.R_drew)); exact (rp5 HO111 BK101)) (Kd.R_base ho2) hb); have HO129 := Aside0.mk (Kd.R_lower (Kd.R_new' (Kd.R_new' ho3 (Kd.R_lt (by (with_reducible repeat (first | apply Kd.R_alloc | apply Kd.R_drewN | apply Kd.R_drew)); exact (rp5 HO114 BK101)))) (Kd.R_lt (by (with_reducible repeat (first | apply Kd.R_alloc | apply Kd.R_drewN | apply Kd.R_drew)); exact (rp5 HO117 BK101)))) (below_size (Sq.kl1 HB GE101))); have HO132 := Aside0.mk (Kd.R_lower (Kd.R_new' (Kd.R_new' ho4 (Kd.R_lt (by (with_reducible repeat (first | apply Kd.R_alloc | apply Kd.R_drewN | apply Kd.R_drew)); exact (rp5 HO114 BK101)))) (Kd.R_lt (by (with_reducible repeat (first | apply Kd.R_alloc | apply Kd.R_drewN | apply Kd.R_drew)); exact (rp5 HO117 BK101)))) (below_size (Sq.kl1 HB GE101))); replace HO114 := Aside0.mk (Kd.R_mono (Kd.R_told (Kd.R_told (Kd.R_old (by (with_reducible repeat (first | apply Kd.R_alloc | apply Kd.R_drewN | apply Kd.R_drew)); exact (rp5 HO114 BK101)) hb) (Kd.R_base ho3)) (Kd.R_base ho4)) (fun _ h_ => h_.1)); replace HO117 := Aside0.mk (Kd.R_mono (Kd.R_told (Kd.R_told (Kd.R_old (by (with_reducible repeat (first | apply Kd.R_alloc | apply Kd.R_drewN | apply Kd.R_drew)); exact (rp5 HO117 BK101)) hb) (Kd.R_base ho3)) (Kd.R_base ho4)) (fun _ h_ => h_.1)); replace BK101 := Aside0.mk (blk_below (g := gb101) (o := .cells #[.slice Ao15 t103.length co15, .slice Ao17 t106.length co17, .slice Ao18 t109.length co18, .slice Ao19 t112.length co19, .slice Ao20 t115.length co20] 27 (0, 0)) (by (with_reducible repeat (first | refine blk_drewN ?_ _ | refine blk_drew ?_ | refine blk_alloc ?_ _)); refine blk_put (cs := #[.slice Ao15 t103.length co15, .slice Ao17 t106.length co17, .slice Ao18 t109.length co18, .slice Ao19 t112.length co19, .slice A0_4 l0_4.length c0_4]) ?_ 4 _ rfl; (with_reducible repeat (first | refine blk_drewN ?_ _ | refine blk_drew ?_ | refine blk_alloc ?_ _)); refine blk_put (cs := #[.slice Ao15 t103.length co15, .slice Ao17 t106.length co17, .slice Ao18 t109.length co18, .slice A0_3 l0_3.length c0_3, .slice A0_4 l0_4.length c0_4]) ?_ 3 _ rfl; (with_reducible repeat (first | refine blk_drewN ?_ _ | refine blk_drew ?_ | refine blk_alloc ?_ _)); refine blk_put (cs := #[.slice Ao15 t103.length co15, .slice Ao17 t106.length co17, .slice A0_2 l0_2.length c0_2, .slice A0_3 l0_3.length c0_3, .slice A0_4 l0_4.length c0_4]) ?_ 2 _ rfl; (with_reducible repeat (first | refine blk_drewN ?_ _ | refine blk_drew ?_ | refine blk_alloc ?_ _)); refine blk_put (cs := #[.slice Ao15 t103.length co15, .slice A0_1 l0_1.length c0_1, .slice A0_2 l0_2.length c0_2, .slice A0_3 l0_3.length c0_3, .slice A0_4 l0_4.length c0_4]) ?_ 1 _ rfl; (with_reducible repeat (first | refine blk_drewN ?_ _ | refine blk_drew ?_ | refine blk_alloc ?_ _)); refine blk_put (cs := #[.slice A0_0 l0_0.length c0_0, .slice A0_1 l0_1.length c0_1, .slice A0_2 l0_2.length c0_2, .slice A0_3 l0_3.length c0_3, .slice A0_4 l0_4.length c0_4]) ?_ 0 _ rfl; exact Sq.kb BK101) hb); replace HB := Aside0.mk (below_step (Sq.kl1 HB GE101) hb); (try clear hb); (try clear ho0); (try clear ho1); (try clear ho2); (try clear ho3); (try clear ho4)) | ((with_reducible refine gate_dst (N := 8) rfl ?_); (try (refine gate_guard (by rfl) ?_; dsimp only)); refine box_event ?hg (N := 8) ?hd (cs := #[.slice none 0 0, .slice none 0 0, .slice none 0 0, .slice none 0 0, .slice none 0 0]) (t := 27) ?hr ?_; (case hd => rfl); (case hg => rfl); (case hr => first | (go_simp; done) | (go_simp; rfl)); intro gb133 hg w22 hbox hb; replace HO105 := krb HO105 hb; replace HO108 := krb HO108 hb; replace HO111 := krb HO111 hb; replace HO114 := krb HO114 hb; replace HO117 := krb HO117 hb; replace HO120 := krb HO120 hb; replace HO123 := krb HO123 hb; replace HO126 := krb HO126 hb; replace HO129 := krb HO129 hb; replace HO132 := krb HO132 hb; have BK133 := Aside0.mk (hbox); have GW133 := Aside0.mk ((by rw [hg]; exact (below_size (Sq.kl1 HB GE101)) : w.heap.size ≤ gb133)); have GE133 := Aside0.mk ((by rw [hg]; exact (below_size (Sq.kl1 HB GE101)) : w.heap.size ≤ gb133)); replace HB := Aside0.mk (below_step (Sq.kl1 HB GE101) hb); have NB101_133 := Aside0.mk ((by rw [hg]; exact Nat.ne_of_lt (blk_lt (kb BK101)) : gb101 ≠ gb133)); have NB133_101 := Aside0.mk ((by rw [hg]; exact Nat.ne_of_gt (blk_lt (kb BK101)) : gb133 ≠ gb101)); replace BK101 := kbb BK101 hb; clear hb hbox hg; obtain ⟨Ao23, co23, eo23⟩ := Kd.R_slice HO120.out; subst eo23; have hnb24 := NB133_101.out; have hnc24 := NB101_133.out; obtain ⟨hcz25_0, hcz25_1, hcz25_2, hcz25_3, hcz25_4⟩ := Sq.c5 BK133; obtain ⟨hfz25_0, hfz25_1, hfz25_2, hfz25_3, hfz25_4⟩ := Sq.z5 BK133; obtain ⟨Ao26, co26, eo26⟩ := Kd.R_slice HO123.out; subst eo26; obtain ⟨Ao27, co27, eo27⟩ := Kd.R_slice HO126.out; subst eo27; obtain ⟨Ao28, co28, eo28⟩ := Kd.R_slice HO129.out; subst eo28; obtain ⟨Ao29, co29, eo29⟩ := Kd.R_slice HO132.out; subst eo29; obtain ⟨hcz30_0, hcz30_1, hcz30_2, hcz30_3, hcz30_4⟩ := Sq.c5 BK101; obtain ⟨hfz30_0, hfz30_1, hfz30_2, hfz30_3, hfz30_4⟩ := Sq.z5 BK101) | ((with_reducible refine gate_callee (f := 14) rfl ?_); refine goesL_ (some 21) rfl rfl Try.func14 (by kernel_rfl) rfl #[.agg #[.slice Ao15 t103.length co15, .slice Ao17 t106.length co17, .slice Ao18 t109.length co18, .slice Ao19 t112.length co19, .slice Ao20 t115.length co20]] rfl (by (try simp only [List.map_toArray, List.map_cons, List.map_nil]); first | done | rfl | (simp only [List.length_drop, List.length_take]; rfl)) ?_; (with_reducible refine (longcaselaw06_ref.calls _ _ t103 _ _ t106 _ _ t109 _ _ t112 _ _ t115 t134 t137 t140 t143 t146 _ A7.out).mono ?_); rintro e w31 ⟨v135, v138, v141, v144, v147, rfl, ho0, ho1, ho2, ho3, ho4, hb⟩; refine ⟨_, rfl, ?_⟩; replace HO120 := Aside0.mk (Kd.R_below (by (with_reducible repeat (first | apply Kd.R_alloc | apply Kd.R_drewN | apply Kd.R_drew)); exact (rp5 HO120 BK133)) hb); replace HO123 := Aside0.mk (Kd.R_below (by (with_reducible repeat (first | apply Kd.R_alloc | apply Kd.R_drewN | apply Kd.R_drew)); exact (rp5 HO123 BK133)) hb); replace HO126 := Aside0.mk (Kd.R_below (by (with_reducible repeat (first | apply Kd.R_alloc | apply Kd.R_drewN | apply Kd.R_drew)); exact (rp5 HO126 BK133)) hb); replace HO129 := Aside0.mk (Kd.R_below (by (with_reducible repeat (first | apply Kd.R_alloc | apply Kd.R_drewN | apply Kd.R_drew)); exact (rp5 HO129 BK133)) hb); replace HO132 := Aside0.mk (Kd.R_below (by (with_reducible repeat (first | apply Kd.R_alloc | apply Kd.R_drewN | apply Kd.R_drew)); exact (rp5 HO132 BK133)) hb); have HO136 := Aside0.mk (ho0 _ _ ((by (with_reducible repeat (first | apply Kd.R_alloc | apply Kd.R_drewN | apply Kd.R_drew)); exact (rp5 HO105 BK133)))); replace HO105 := Aside0.mk (Kd.R_below (by (with_reducible repeat (first | apply Kd.R_alloc | apply Kd.R_drewN | apply Kd.R_drew)); exact (rp5 HO105 BK133)) hb); have HO139 := Aside0.mk (ho1 _ _ ((by (with_reducible repeat (first | apply Kd.R_alloc | apply Kd.R_drewN | apply Kd.R_drew)); exact (rp5 HO108 BK133)))); replace HO108 := Aside0.mk (Kd.R_below (by (with_reducible repeat (first | apply Kd.R_alloc | apply Kd.R_drewN | apply Kd.R_drew)); exact (rp5 HO108 BK133)) hb); have HO142 := Aside0.mk (ho2 _ _ ((by (with_reducible repeat (first | apply Kd.R_alloc | apply Kd.R_drewN | apply Kd.R_drew)); exact (rp5 HO111 BK133)))); replace HO111 := Aside0.mk (Kd.R_below (by (with_reducible repeat (first | apply Kd.R_alloc | apply Kd.R_drewN | apply Kd.R_drew)); exact (rp5 HO111 BK133)) hb); have HO145 := Aside0.mk (ho3 _ _ ((by (with_reducible repeat (first | apply Kd.R_alloc | apply Kd.R_drewN | apply Kd.R_drew)); exact (rp5 HO114 BK133)))); replace HO114 := Aside0.mk (Kd.R_below (by (with_reducible repeat (first | apply Kd.R_alloc | apply Kd.R_drewN | apply Kd.R_drew)); exact (rp5 HO114 BK133)) hb); have HO148 := Aside0.mk (ho4 _ _ ((by (with_reducible repeat (first | apply Kd.R_alloc | apply Kd.R_drewN | apply Kd.R_drew)); exact (rp5 HO117 BK133)))); replace HO117 := Aside0.mk (Kd.R_below (by (with_reducible repeat (first | apply Kd.R_alloc | apply Kd.R_drewN | apply Kd.R_drew)); exact (rp5 HO117 BK133)) hb); replace BK101 := Aside0.mk (blk_below (g := gb101) (o := .cells #[.slice Ao15 t103.length co15, .slice Ao17 t106.length co17, .slice Ao18 t109.length co18, .slice Ao19 t112.length co19, .slice Ao20 t115.length co20] 27 (0, 0)) (by (with_reducible repeat (first | refine blk_drewN ?_ _ | refine blk_drew ?_ | refine blk_alloc ?_ _)); refine blk_far ?_ NB101_133.out _; (with_reducible repeat (first | refine blk_drewN ?_ _ | refine blk_drew ?_ | refine blk_alloc ?_ _)); refine blk_far ?_ NB101_133.out _; (with_reducible repeat (first | refine blk_drewN ?_ _ | refine blk_drew ?_ | refine blk_alloc ?_ _)); refine blk_far ?_ NB101_133.out _; (with_reducible repeat (first | refine blk_drewN ?_ _ | refine blk_drew ?_ | refine blk_alloc ?_ _)); refine blk_far ?_ NB101_133.out _; (with_reducible repeat (first | refine blk_drewN ?_ _ | refine blk_drew ?_ | refine blk_alloc ?_ _)); refine blk_far ?_ NB101_133.out _; exact Sq.kb BK101) hb); replace BK133 := Aside0.mk (blk_below (g := gb133) (o := .cells #[.slice Ao23 t118.length co23, .slice Ao26 t121.length co26, .slice Ao27 t124.length co27, .slice Ao28 t127.length co28, .slice Ao29 t130.length co29] 27 (0, 0)) (by (with_reducible repeat (first | refine blk_drewN ?_ _ | refine blk_drew ?_ | refine blk_alloc ?_ _)); refine blk_put (cs := #[.slice Ao23 t118.length co23, .slice Ao26 t121.length co26, .slice Ao27 t124.length co27, .slice Ao28 t127.length co28, .slice none 0 0]) ?_ 4 _ rfl; (with_reducible repeat (first | refine blk_drewN ?_ _ | refine blk_drew ?_ | refine blk_alloc ?_ _)); refine blk_put (cs := #[.slice Ao23 t118.length co23, .slice Ao26 t121.length co26, .slice Ao27 t124.length co27, .slice none 0 0, .slice none 0 0]) ?_ 3 _ rfl; (with_reducible repeat (first | refine blk_drewN ?_ _ | refine blk_drew ?_ | refine blk_alloc ?_ _)); refine blk_put (cs := #[.slice Ao23 t118.length co23, .slice Ao26 t121.length co26, .slice none 0 0, .slice none 0 0, .slice none 0 0]) ?_ 2 _ rfl; (with_reducible repeat (first | refine blk_drewN ?_ _ | refine blk_drew ?_ | refine blk_alloc ?_ _)); refine blk_put (cs := #[.slice Ao23 t118.length co23, .slice none 0 0, .slice none 0 0, .slice none 0 0, .slice none 0 0]) ?_ 1 _ rfl; (with_reducible repeat (first | refine blk_drewN ?_ _ | refine blk_drew ?_ | refine blk_alloc ?_ _)); refine blk_put (cs := #[.slice none 0 0, .slice none 0 0, .slice none 0 0, .slice none 0 0, .slice none 0 0]) ?_ 0 _ rfl; exact Sq.kb BK133) hb); replace HB := Aside0.mk (below_step (Sq.kl2 HB GE101 GE133) hb); (try clear hb); (try clear ho0); (try clear ho1); (try clear ho2); (try clear ho3); (try clear ho4); obtain ⟨Ao32, co32, eo32⟩ := Kd.R_slice HO136.out; subst eo32; obtain ⟨Ao33, co33, eo33⟩ := Kd.R_slice HO139.out; subst eo33; obtain ⟨Ao34, co34, eo34⟩ := Kd.R_slice HO142.out; subst eo34; obtain ⟨Ao35, co35, eo35⟩ := Kd.R_slice HO145.out; subst eo35; obtain ⟨Ao36, co36, eo36⟩ := Kd.R_slice HO148.out; subst eo36) | ((with_reducible refine gate_callee (f := 13) rfl ?_); refine goesL_ (some 24) rfl rfl Try.func13 (by kernel_rfl) rfl #[.agg #[.slice Ao32 t134.length co32, .slice Ao33 t137.length co33, .slice Ao34 t140.length co34, .slice Ao35 t143.length co35, .slice Ao36 t146.length co36], .int .i64 a1, .int .i64 a2] rfl (by (try simp only [List.map_toArray, List.map_cons, List.map_nil]); first | done | rfl | (simp only [List.length_drop, List.length_take]; rfl)) ?_; (with_reducible refine (longcaseref06_Right.calls _ _ t134 _ _ t137 _ _ t140 _ _ t143 _ _ t146 a1 a2 t149 _ ?side1 ?side2 ?side3 ?side4 ?side5 ?side6 ?side7 ?side8 ?side9 ?side10 A8.out).mono ?_); (case side1 => exact Sq.qc HO136); (case side2 => exact Sq.ql HO136); (case side3 => exact Sq.qc HO139); (case side4 => exact Sq.ql HO139); (case side5 => exact Sq.qc HO142); (case side6 => exact Sq.ql HO142); (case side7 => exact Sq.qc HO145); (case side8 => exact Sq.ql HO145); (case side9 => exact Sq.qc HO148); (case side10 => exact Sq.ql HO148); rintro e w37 ⟨rfl, hb⟩; refine ⟨_, rfl, ?_⟩; replace HO105 := krb HO105 hb; replace HO108 := krb HO108 hb; replace HO111 := krb HO111 hb; replace HO114 := krb HO114 hb; replace HO117 := krb HO117 hb; replace HO120 := krb HO120 hb; replace HO123 := krb HO123 hb; replace HO126 := krb HO126 hb; replace HO129 := krb HO129 hb; replace HO132 := krb HO132 hb; replace HO136 := krb HO136 hb; replace HO139 := krb HO139 hb; replace HO142 := krb HO142 hb; replace HO145 := krb HO145 hb; replace HO148 := krb HO148 hb; replace BK101 := kbb BK101 hb; replace BK133 := kbb BK133 hb; replace HB := Aside0.mk (below_step (Sq.kl2 HB GE101 GE133) hb); (try clear hb); obtain ⟨hcz38_0, hcz38_1, hcz38_2, hcz38_3, hcz38_4⟩ := Sq.c5 BK101; obtain ⟨hfz38_0, hfz38_1, hfz38_2, hfz38_3, hfz38_4⟩ := Sq.z5 BK101) | ((with_reducible refine gate_callee (f := 15) rfl ?_); refine goesL_ (some 29) rfl rfl Try.func15 (by kernel_rfl) rfl #[.agg #[.slice Ao15 t103.length co15, .slice Ao17 t106.length co17, .slice Ao18 t109.length co18, .slice Ao19 t112.length co19, .slice Ao20 t115.length co20], .int .i64 a1, .int .i64 a2] rfl (by (try simp only [List.map_toArray, List.map_cons, List.map_nil]); first | done | rfl | (simp only [List.length_drop, List.length_take]; rfl)) ?_; (with_reducible refine (block_Encode.calls _ _ t103 _ _ t106 _ _ t109 _ _ t112 _ _ t115 a1 a2 t150 t153 t154 t155 t156 t157 t158 t159 t160 _ ?side1 ?side2 ?side3 ?side4 ?side5 ?side6 ?side7 ?side8 ?side9 ?side10 A9.out).mono ?_); (case side1 => exact Sq.qc HO105); (case side2 => exact Sq.ql HO105); (case side3 => exact Sq.qc HO108); (case side4 => exact Sq.ql HO108); (case side5 => exact Sq.qc HO111); (case side6 => exact Sq.ql HO111); (case side7 => exact Sq.qc HO114); (case side8 => exact Sq.ql HO114); (case side9 => exact Sq.qc HO117); (case side10 => exact Sq.ql HO117); rintro e w39 ⟨v151, rfl, ho0, hb⟩; refine ⟨_, rfl, ?_⟩; replace HO105 := krb HO105 hb; replace HO108 := krb HO108 hb; replace HO111 := krb HO111 hb; replace HO114 := krb HO114 hb; replace HO117 := krb HO117 hb; replace HO120 := krb HO120 hb; replace HO123 := krb HO123 hb; replace HO126 := krb HO126 hb; replace HO129 := krb HO129 hb; replace HO132 := krb HO132 hb; replace HO136 := krb HO136 hb; replace HO139 := krb HO139 hb; replace HO142 := krb HO142 hb; replace HO145 := krb HO145 hb; replace HO148 := krb HO148 hb; have HO152 := Aside0.mk (Kd.R_lower ho0 (below_size (Sq.kl2 HB GE101 GE133))); replace BK101 := kbb BK101 hb; replace BK133 := kbb BK133 hb; replace HB := Aside0.mk (below_step (Sq.kl2 HB GE101 GE133) hb); (try clear hb); (try clear ho0)) | ((with_reducible refine gate_dst (N := 11) rfl ?_); (try (refine gate_guard (by rfl) ?_; dsimp only)); refine box_event ?hg (N := 11) ?hd (cs := #[.int .i64 0, .int .i64 0, .int .i64 0, .int .i64 0, .int .i64 0, .int .i64 0, .int .i64 0]) (t := 35) ?hr ?_; (case hd => rfl); (case hg => rfl); (case hr => first | (go_simp; done) | (go_simp; rfl)); intro gb161 hg w40 hbox hb; replace HO105 := krb HO105 hb; replace HO108 := krb HO108 hb; replace HO111 := krb HO111 hb; replace HO114 := krb HO114 hb; replace HO117 := krb HO117 hb; replace HO120 := krb HO120 hb; replace HO123 := krb HO123 hb; replace HO126 := krb HO126 hb; replace HO129 := krb HO129 hb; replace HO132 := krb HO132 hb; replace HO136 := krb HO136 hb; replace HO139 := krb HO139 hb; replace HO142 := krb HO142 hb; replace HO145 := krb HO145 hb; replace HO148 := krb HO148 hb; replace HO152 := krb HO152 hb; have BK161 := Aside0.mk (hbox); have GW161 := Aside0.mk ((by rw [hg]; exact (below_size (Sq.kl2 HB GE101 GE133)) : w.heap.size ≤ gb161)); have GE161 := Aside0.mk ((by rw [hg]; exact (below_size (Sq.kl2 HB GE101 GE133)) : w.heap.size ≤ gb161)); replace HB := Aside0.mk (below_step (Sq.kl2 HB GE101 GE133) hb); have NB101_161 := Aside0.mk ((by rw [hg]; exact Nat.ne_of_lt (blk_lt (kb BK101)) : gb101 ≠ gb161)); have NB161_101 := Aside0.mk ((by rw [hg]; exact Nat.ne_of_gt (blk_lt (kb BK101)) : gb161 ≠ gb101)); replace BK101 := kbb BK101 hb; have NB133_161 := Aside0.mk ((by rw [hg]; exact Nat.ne_of_lt (blk_lt (kb BK133)) : gb133 ≠ gb161)); have NB161_133 := Aside0.mk ((by rw [hg]; exact Nat.ne_of_gt (blk_lt (kb BK133)) : gb161 ≠ gb133)); replace BK133 := kbb BK133 hb; clear hb hbox hg; have hnb41 := NB161_101.out; have hnc41 := NB101_161.out; have hnb42 := NB161_133.out; have hnc42 := NB133_161.out; obtain ⟨hcz43_0, hcz43_1, hcz43_2, hcz43_3, hcz43_4, hcz43_5, hcz43_6⟩ := Sq.c7 BK161; obtain ⟨hfz43_0, hfz43_1, hfz43_2, hfz43_3, hfz43_4, hfz43_5, hfz43_6⟩ := Sq.z7 BK161))
 (try simp only [Act.put, List.setIfInBounds_toArray, List.set_cons_zero, List.set_cons_succ])
 go_cut [46] (fun v46 wc => ∃ (kq : Nat) (x46_9 : Bool), v46 = .bool x46_9 ∧ Aside0 (longcaselaw06_BlockTells.j0 kq a1 a2 t102 t149 t150 t160 x46_9 t103 t106 t109 t112 t115 t153 t154 t155 t156 t157 t158 t159 = some r) ∧ Aside0 (kq ≤ k) ∧ Aside0 (Kd.R (Kd.int .u8) 5 wc w.heap.size (fun _ => True) v151 t150) ∧ Aside0 (Kd.R k56 56 wc w.heap.size (fun _ => True) (.slice Ao15 t103.length co15) t103) ∧ Aside0 (Kd.R k54 54 wc w.heap.size (fun _ => True) (.slice Ao17 t106.length co17) t106) ∧ Aside0 (Kd.R k67 67 wc w.heap.size (fun _ => True) (.slice Ao18 t109.length co18) t109) ∧ Aside0 (Kd.R Kd.bool 4 wc w.heap.size (fun _ => True) (.slice Ao19 t112.length co19) t112) ∧ Aside0 (Kd.R Kd.bool 4 wc w.heap.size (fun _ => True) (.slice Ao20 t115.length co20) t115) ∧ Aside0 (Kd.R k56 56 wc w.heap.size (fun _ => True) (.slice Ao23 t118.length co23) t118) ∧ Aside0 (Kd.R k54 54 wc w.heap.size (fun _ => True) (.slice Ao26 t121.length co26) t121) ∧ Aside0 (Kd.R k67 67 wc w.heap.size (fun _ => True) (.slice Ao27 t124.length co27) t124) ∧ Aside0 (Kd.R Kd.bool 4 wc w.heap.size (fun _ => True) (.slice Ao28 t127.length co28) t127) ∧ Aside0 (Kd.R Kd.bool 4 wc w.heap.size (fun _ => True) (.slice Ao29 t130.length co29) t130) ∧ Aside0 (wc.heap[gb101]? = some (.cells #[(.slice Ao15 t103.length co15), (.slice Ao17 t106.length co17), (.slice Ao18 t109.length co18), (.slice Ao19 t112.length co19), (.slice Ao20 t115.length co20)] 27 (0, 0))) ∧ Aside0 (wc.heap[gb133]? = some (.cells #[(.slice Ao23 t118.length co23), (.slice Ao26 t121.length co26), (.slice Ao27 t124.length co27), (.slice Ao28 t127.length co28), (.slice Ao29 t130.length co29)] 27 (0, 0))) ∧ Aside0 (wc.heap[gb161]? = some (.cells #[.int .i64 t153, .int .i64 t154, .int .i64 t155, .int .i64 t156, .int .i64 t157, .int .i64 t158, .int .i64 t159] 35 (0, 0))) ∧ Aside0 (Below w.heap.size w wc))
 case first =>
  have H := HC10.out
  clear HC10
  replace H := Option.bind_eq_some_iff.mp H
  obtain ⟨t162, A440, H⟩ := H
  try dsimp only at H
  have A44 := Aside0.mk A440
  clear A440
  by_cases c45 : (t162 != t149) = true
  ·
   rw [if_pos c45] at H
   have c45b0 : (t162 != t149) = true := c45
   (try (have c45b1 : decide (t162 = t149) = false := by simpa using c45))
   (try (have c45b2 : (t162 == t149) = false := by simpa using c45))
   (try (have c45b3 : ¬ (t162 = t149) := by simpa using c45))
   clear c45
   (first | rw [c45b0] | rw [c45b1] | (simp only [i64_w, i32_w]; rw [c45b0]) | skip)
   have H' := Aside0.mk H
   clear H
   try go_wp2
   obtain ⟨w46, hw_⟩ : ∃ x, x = (((((((w40.setCell ⟨gb161, 0, none⟩ (.int .i64 t153)).setCell ⟨gb161, 1, none⟩ (.int .i64 t154)).setCell ⟨gb161, 2, none⟩ (.int .i64 t155)).setCell ⟨gb161, 3, none⟩ (.int .i64 t156)).setCell ⟨gb161, 4, none⟩ (.int .i64 t157)).setCell ⟨gb161, 5, none⟩ (.int .i64 t158)).setCell ⟨gb161, 6, none⟩ (.int .i64 t159)) := ⟨_, rfl⟩
   replace HO105 : Aside0 (Kd.R k56 56 w46 w.heap.size (fun _ => True) (.slice Ao15 t103.length co15) t103) := ⟨by rw [hw_]; (with_reducible repeat (first | apply Kd.R_alloc | apply Kd.R_drewN | apply Kd.R_drew)); exact Kd.R_mono (Sq.rf7 HO105 BK161) (fun _ _ => trivial)⟩
   replace HO108 : Aside0 (Kd.R k54 54 w46 w.heap.size (fun _ => True) (.slice Ao17 t106.length co17) t106) := ⟨by rw [hw_]; (with_reducible repeat (first | apply Kd.R_alloc | apply Kd.R_drewN | apply Kd.R_drew)); exact Kd.R_mono (Sq.rf7 HO108 BK161) (fun _ _ => trivial)⟩
   replace HO111 : Aside0 (Kd.R k67 67 w46 w.heap.size (fun _ => True) (.slice Ao18 t109.length co18) t109) := ⟨by rw [hw_]; (with_reducible repeat (first | apply Kd.R_alloc | apply Kd.R_drewN | apply Kd.R_drew)); exact Kd.R_mono (Sq.rf7 HO111 BK161) (fun _ _ => trivial)⟩
   replace HO114 : Aside0 (Kd.R Kd.bool 4 w46 w.heap.size (fun _ => True) (.slice Ao19 t112.length co19) t112) := ⟨by rw [hw_]; (with_reducible repeat (first | apply Kd.R_alloc | apply Kd.R_drewN | apply Kd.R_drew)); exact Kd.R_mono (Sq.rf7 HO114 BK161) (fun _ _ => trivial)⟩
   replace HO117 : Aside0 (Kd.R Kd.bool 4 w46 w.heap.size (fun _ => True) (.slice Ao20 t115.length co20) t115) := ⟨by rw [hw_]; (with_reducible repeat (first | apply Kd.R_alloc | apply Kd.R_drewN | apply Kd.R_drew)); exact Kd.R_mono (Sq.rf7 HO117 BK161) (fun _ _ => trivial)⟩
   replace HO120 : Aside0 (Kd.R k56 56 w46 w.heap.size (fun _ => True) (.slice Ao23 t118.length co23) t118) := ⟨by rw [hw_]; (with_reducible repeat (first | apply Kd.R_alloc | apply Kd.R_drewN | apply Kd.R_drew)); exact Kd.R_mono (Sq.rf7 HO120 BK161) (fun _ _ => trivial)⟩
   replace HO123 : Aside0 (Kd.R k54 54 w46 w.heap.size (fun _ => True) (.slice Ao26 t121.length co26) t121) := ⟨by rw [hw_]; (with_reducible repeat (first | apply Kd.R_alloc | apply Kd.R_drewN | apply Kd.R_drew)); exact Kd.R_mono (Sq.rf7 HO123 BK161) (fun _ _ => trivial)⟩
   replace HO126 : Aside0 (Kd.R k67 67 w46 w.heap.size (fun _ => True) (.slice Ao27 t124.length co27) t124) := ⟨by rw [hw_]; (with_reducible repeat (first | apply Kd.R_alloc | apply Kd.R_drewN | apply Kd.R_drew)); exact Kd.R_mono (Sq.rf7 HO126 BK161) (fun _ _ => trivial)⟩
   replace HO129 : Aside0 (Kd.R Kd.bool 4 w46 w.heap.size (fun _ => True) (.slice Ao28 t127.length co28) t127) := ⟨by rw [hw_]; (with_reducible repeat (first | apply Kd.R_alloc | apply Kd.R_drewN | apply Kd.R_drew)); exact Kd.R_mono (Sq.rf7 HO129 BK161) (fun _ _ => trivial)⟩
   replace HO132 : Aside0 (Kd.R Kd.bool 4 w46 w.heap.size (fun _ => True) (.slice Ao29 t130.length co29) t130) := ⟨by rw [hw_]; (with_reducible repeat (first | apply Kd.R_alloc | apply Kd.R_drewN | apply Kd.R_drew)); exact Kd.R_mono (Sq.rf7 HO132 BK161) (fun _ _ => trivial)⟩
   replace HO136 : Aside0 (Kd.R k56 56 w46 w.heap.size (fun _ => True) (.slice Ao32 t134.length co32) t134) := ⟨by rw [hw_]; (with_reducible repeat (first | apply Kd.R_alloc | apply Kd.R_drewN | apply Kd.R_drew)); exact Kd.R_mono (Sq.rf7 HO136 BK161) (fun _ _ => trivial)⟩
   replace HO139 : Aside0 (Kd.R k54 54 w46 w.heap.size (fun _ => True) (.slice Ao33 t137.length co33) t137) := ⟨by rw [hw_]; (with_reducible repeat (first | apply Kd.R_alloc | apply Kd.R_drewN | apply Kd.R_drew)); exact Kd.R_mono (Sq.rf7 HO139 BK161) (fun _ _ => trivial)⟩
   replace HO142 : Aside0 (Kd.R k67 67 w46 w.heap.size (fun _ => True) (.slice Ao34 t140.length co34) t140) := ⟨by rw [hw_]; (with_reducible repeat (first | apply Kd.R_alloc | apply Kd.R_drewN | apply Kd.R_drew)); exact Kd.R_mono (Sq.rf7 HO142 BK161) (fun _ _ => trivial)⟩
   replace HO145 : Aside0 (Kd.R Kd.bool 4 w46 w.heap.size (fun _ => True) (.slice Ao35 t143.length co35) t143) := ⟨by rw [hw_]; (with_reducible repeat (first | apply Kd.R_alloc | apply Kd.R_drewN | apply Kd.R_drew)); exact Kd.R_mono (Sq.rf7 HO145 BK161) (fun _ _ => trivial)⟩
   replace HO148 : Aside0 (Kd.R Kd.bool 4 w46 w.heap.size (fun _ => True) (.slice Ao36 t146.length co36) t146) := ⟨by rw [hw_]; (with_reducible repeat (first | apply Kd.R_alloc | apply Kd.R_drewN | apply Kd.R_drew)); exact Kd.R_mono (Sq.rf7 HO148 BK161) (fun _ _ => trivial)⟩
   replace HO152 : Aside0 (Kd.R (Kd.int .u8) 5 w46 w.heap.size (fun _ => True) v151 t150) := ⟨by rw [hw_]; (with_reducible repeat (first | apply Kd.R_alloc | apply Kd.R_drewN | apply Kd.R_drew)); exact Kd.R_mono (Sq.rf7 HO152 BK161) (fun _ hk => trivial)⟩
   replace BK101 : Aside0 (w46.heap[gb101]? = some (.cells #[.slice Ao15 t103.length co15, .slice Ao17 t106.length co17, .slice Ao18 t109.length co18, .slice Ao19 t112.length co19, .slice Ao20 t115.length co20] 27 (0, 0))) := ⟨by rw [hw_]; (with_reducible repeat (first | refine blk_drewN ?_ _ | refine blk_drew ?_ | refine blk_alloc ?_ _)); refine blk_far ?_ NB101_161.out _; (with_reducible repeat (first | refine blk_drewN ?_ _ | refine blk_drew ?_ | refine blk_alloc ?_ _)); refine blk_far ?_ NB101_161.out _; (with_reducible repeat (first | refine blk_drewN ?_ _ | refine blk_drew ?_ | refine blk_alloc ?_ _)); refine blk_far ?_ NB101_161.out _; (with_reducible repeat (first | refine blk_drewN ?_ _ | refine blk_drew ?_ | refine blk_alloc ?_ _)); refine blk_far ?_ NB101_161.out _; (with_reducible repeat (first | refine blk_drewN ?_ _ | refine blk_drew ?_ | refine blk_alloc ?_ _)); refine blk_far ?_ NB101_161.out _; (with_reducible repeat (first | refine blk_drewN ?_ _ | refine blk_drew ?_ | refine blk_alloc ?_ _)); refine blk_far ?_ NB101_161.out _; (with_reducible repeat (first | refine blk_drewN ?_ _ | refine blk_drew ?_ | refine blk_alloc ?_ _)); refine blk_far ?_ NB101_161.out _; exact Sq.kb BK101⟩
   replace BK133 : Aside0 (w46.heap[gb133]? = some (.cells #[.slice Ao23 t118.length co23, .slice Ao26 t121.length co26, .slice Ao27 t124.length co27, .slice Ao28 t127.length co28, .slice Ao29 t130.length co29] 27 (0, 0))) := ⟨by rw [hw_]; (with_reducible repeat (first | refine blk_drewN ?_ _ | refine blk_drew ?_ | refine blk_alloc ?_ _)); refine blk_far ?_ NB133_161.out _; (with_reducible repeat (first | refine blk_drewN ?_ _ | refine blk_drew ?_ | refine blk_alloc ?_ _)); refine blk_far ?_ NB133_161.out _; (with_reducible repeat (first | refine blk_drewN ?_ _ | refine blk_drew ?_ | refine blk_alloc ?_ _)); refine blk_far ?_ NB133_161.out _; (with_reducible repeat (first | refine blk_drewN ?_ _ | refine blk_drew ?_ | refine blk_alloc ?_ _)); refine blk_far ?_ NB133_161.out _; (with_reducible repeat (first | refine blk_drewN ?_ _ | refine blk_drew ?_ | refine blk_alloc ?_ _)); refine blk_far ?_ NB133_161.out _; (with_reducible repeat (first | refine blk_drewN ?_ _ | refine blk_drew ?_ | refine blk_alloc ?_ _)); refine blk_far ?_ NB133_161.out _; (with_reducible repeat (first | refine blk_drewN ?_ _ | refine blk_drew ?_ | refine blk_alloc ?_ _)); refine blk_far ?_ NB133_161.out _; exact Sq.kb BK133⟩
   replace BK161 : Aside0 (w46.heap[gb161]? = some (.cells #[.int .i64 t153, .int .i64 t154, .int .i64 t155, .int .i64 t156, .int .i64 t157, .int .i64 t158, .int .i64 t159] 35 (0, 0))) := ⟨by rw [hw_]; (with_reducible repeat (first | refine blk_drewN ?_ _ | refine blk_drew ?_ | refine blk_alloc ?_ _)); refine blk_put (cs := #[.int .i64 t153, .int .i64 t154, .int .i64 t155, .int .i64 t156, .int .i64 t157, .int .i64 t158, .int .i64 0]) ?_ 6 _ rfl; (with_reducible repeat (first | refine blk_drewN ?_ _ | refine blk_drew ?_ | refine blk_alloc ?_ _)); refine blk_put (cs := #[.int .i64 t153, .int .i64 t154, .int .i64 t155, .int .i64 t156, .int .i64 t157, .int .i64 0, .int .i64 0]) ?_ 5 _ rfl; (with_reducible repeat (first | refine blk_drewN ?_ _ | refine blk_drew ?_ | refine blk_alloc ?_ _)); refine blk_put (cs := #[.int .i64 t153, .int .i64 t154, .int .i64 t155, .int .i64 t156, .int .i64 0, .int .i64 0, .int .i64 0]) ?_ 4 _ rfl; (with_reducible repeat (first | refine blk_drewN ?_ _ | refine blk_drew ?_ | refine blk_alloc ?_ _)); refine blk_put (cs := #[.int .i64 t153, .int .i64 t154, .int .i64 t155, .int .i64 0, .int .i64 0, .int .i64 0, .int .i64 0]) ?_ 3 _ rfl; (with_reducible repeat (first | refine blk_drewN ?_ _ | refine blk_drew ?_ | refine blk_alloc ?_ _)); refine blk_put (cs := #[.int .i64 t153, .int .i64 t154, .int .i64 0, .int .i64 0, .int .i64 0, .int .i64 0, .int .i64 0]) ?_ 2 _ rfl; (with_reducible repeat (first | refine blk_drewN ?_ _ | refine blk_drew ?_ | refine blk_alloc ?_ _)); refine blk_put (cs := #[.int .i64 t153, .int .i64 0, .int .i64 0, .int .i64 0, .int .i64 0, .int .i64 0, .int .i64 0]) ?_ 1 _ rfl; (with_reducible repeat (first | refine blk_drewN ?_ _ | refine blk_drew ?_ | refine blk_alloc ?_ _)); refine blk_put (cs := #[.int .i64 0, .int .i64 0, .int .i64 0, .int .i64 0, .int .i64 0, .int .i64 0, .int .i64 0]) ?_ 0 _ rfl; exact Sq.kb BK161⟩
   replace HB : Aside0 (Below w.heap.size w w46) := ⟨by rw [hw_]; exact Sq.kl3 HB GE101 GE133 GE161⟩
   rw [← hw_]
   clear hw_
   replace HO105 := Aside0.mk (Kd.R_drew HO105.out)
   replace HO108 := Aside0.mk (Kd.R_drew HO108.out)
   replace HO111 := Aside0.mk (Kd.R_drew HO111.out)
   replace HO114 := Aside0.mk (Kd.R_drew HO114.out)
   replace HO117 := Aside0.mk (Kd.R_drew HO117.out)
   replace HO120 := Aside0.mk (Kd.R_drew HO120.out)
   replace HO123 := Aside0.mk (Kd.R_drew HO123.out)
   replace HO126 := Aside0.mk (Kd.R_drew HO126.out)
   replace HO129 := Aside0.mk (Kd.R_drew HO129.out)
   replace HO132 := Aside0.mk (Kd.R_drew HO132.out)
   replace HO136 := Aside0.mk (Kd.R_drew HO136.out)
   replace HO139 := Aside0.mk (Kd.R_drew HO139.out)
   replace HO142 := Aside0.mk (Kd.R_drew HO142.out)
   replace HO145 := Aside0.mk (Kd.R_drew HO145.out)
   replace HO148 := Aside0.mk (Kd.R_drew HO148.out)
   replace HO152 := Aside0.mk (Kd.R_drew HO152.out)
   replace BK101 := Aside0.mk (blk_drew BK101.out)
   replace BK133 := Aside0.mk (blk_drew BK133.out)
   replace BK161 := Aside0.mk (blk_drew BK161.out)
   replace HB := Aside0.mk (below_drew1 HB.out)
   refine start_ (n := 14) (S := fun w' => w'.cell? ⟨gb101, 0, none⟩ = some (.slice Ao15 t103.length co15) ∧ w'.cell? ⟨gb101, 1, none⟩ = some (.slice Ao17 t106.length co17) ∧ w'.cell? ⟨gb101, 2, none⟩ = some (.slice Ao18 t109.length co18) ∧ w'.cell? ⟨gb101, 3, none⟩ = some (.slice Ao19 t112.length co19) ∧ w'.cell? ⟨gb101, 4, none⟩ = some (.slice Ao20 t115.length co20)) (ds := []) (Sq.bm 14 0) (by kernel_rfl) rfl (by kernel_rfl) ⟨(blk_cell BK101.out 0).trans rfl, (blk_cell BK101.out 1).trans rfl, (blk_cell BK101.out 2).trans rfl, (blk_cell BK101.out 3).trans rfl, (blk_cell BK101.out 4).trans rfl⟩ (fun hHeld => ?_); refine with_tabW longcaselaw06_BlockTells.tab6 longcaselaw06_BlockTells.bits6 (fun HT_ HW_ => ?_)
   generalize w46.drew = w47 at HO105 HO108 HO111 HO114 HO117 HO120 HO123 HO126 HO129 HO132 HO136 HO139 HO142 HO145 HO148 HO152 BK101 BK133 BK161 HB hHeld ⊢
   refine Sq.pv 1 34 2 HT_ ?_
   refine Sq.pv 2 35 6 HT_ ?_
   refine Sq.pv 4 37 22 HT_ ?_
   refine Sq.tv 0 33 23 HT_ HW_ hHeld ?_
   refine one_ (i := 3) (N := some 36) (bm 14 31) rfl rfl (one_of HT_.out (by kernel_rfl)) (by decide) (fun K hK => ?_)
   refine goes_ Try.func16 (by kernel_rfl) rfl #[.agg #[.slice Ao15 t103.length co15, .slice Ao17 t106.length co17, .slice Ao18 t109.length co18, .slice Ao19 t112.length co19, .slice Ao20 t115.length co20], .int .i64 a1, .int .i64 a2] (by rfl) rfl rfl (by (try simp only [List.map_toArray, List.map_cons, List.map_nil]); first | done | rfl | (simp only [List.length_drop, List.length_take]; rfl)) ?_
   with_reducible refine (block_Right.calls _ _ t103 _ _ t106 _ _ t109 _ _ t112 _ _ t115 a1 a2 t162 _ ?side1 ?side2 ?side3 ?side4 ?side5 ?side6 ?side7 ?side8 ?side9 ?side10 A44.out).mono ?_
   (case side1 => exact Sq.qc HO105)
   (case side2 => exact Sq.ql HO105)
   (case side3 => exact Sq.qc HO108)
   (case side4 => exact Sq.ql HO108)
   (case side5 => exact Sq.qc HO111)
   (case side6 => exact Sq.ql HO111)
   (case side7 => exact Sq.qc HO114)
   (case side8 => exact Sq.ql HO114)
   (case side9 => exact Sq.qc HO117)
   (case side10 => exact Sq.ql HO117)
   rintro e w48 ⟨rfl, hb⟩
   refine ⟨_, rfl, ?_⟩
   replace HO105 := krb HO105 hb
   replace HO108 := krb HO108 hb
   replace HO111 := krb HO111 hb
   replace HO114 := krb HO114 hb
   replace HO117 := krb HO117 hb
   replace HO120 := krb HO120 hb
   replace HO123 := krb HO123 hb
   replace HO126 := krb HO126 hb
   replace HO129 := krb HO129 hb
   replace HO132 := krb HO132 hb
   replace HO136 := krb HO136 hb
   replace HO139 := krb HO139 hb
   replace HO142 := krb HO142 hb
   replace HO145 := krb HO145 hb
   replace HO148 := krb HO148 hb
   replace HO152 := krb HO152 hb
   replace BK101 := kbb BK101 hb
   replace BK133 := kbb BK133 hb
   replace BK161 := kbb BK161 hb
   replace HB := Aside0.mk (below_step (Sq.kl3 HB GE101 GE133 GE161) hb)
   (try clear hb)
   (try clear hk)
   refine hK.out _ _ ⟨(blk_cell BK101.out 0).trans rfl, (blk_cell BK101.out 1).trans rfl, (blk_cell BK101.out 2).trans rfl, (blk_cell BK101.out 3).trans rfl, (blk_cell BK101.out 4).trans rfl⟩ (fun hHeld => ?_)
   clear hK K
   refine norm_ (a' := ?_) ?_ ?_
   rotate_left
   ·
    show Act.put _ (some 36) _ = _
    simp only [Act.put, List.setIfInBounds_toArray, List.set_cons_zero, List.set_cons_succ, i64_w, i32_w]
    rfl
   refine Sq.pv 5 38 63 HT_ ?_
   refine Sq.pv 6 39 127 HT_ ?_
   refine Sq.nv 7 40 255 HT_ ?_
   refine Sq.nv 8 41 511 HT_ ?_
   refine Sq.nv 9 42 1023 HT_ ?_
   refine Sq.nv 10 43 2047 HT_ ?_
   refine Sq.nv 11 44 4095 HT_ ?_
   refine Sq.nv 12 45 8191 HT_ ?_
   refine Sq.pv 13 46 16383 HT_ ?_
   refine done_ (done_of HT_.out (by kernel_rfl)) ?_
   try go_wp2
   go_meet
   case rel => exact ⟨_, (true), (by first | rfl | (simp; done) | (simp [*]; done)), H', ⟨by first | omega | exact Nat.le_refl _⟩, ⟨by (with_reducible repeat (first | apply Kd.R_alloc | apply Kd.R_drewN | apply Kd.R_drew)); exact HO152.out⟩, ⟨by (with_reducible repeat (first | apply Kd.R_alloc | apply Kd.R_drewN | apply Kd.R_drew)); exact Kd.R_mono HO105.out (fun _ _ => trivial)⟩, ⟨by (with_reducible repeat (first | apply Kd.R_alloc | apply Kd.R_drewN | apply Kd.R_drew)); exact Kd.R_mono HO108.out (fun _ _ => trivial)⟩, ⟨by (with_reducible repeat (first | apply Kd.R_alloc | apply Kd.R_drewN | apply Kd.R_drew)); exact Kd.R_mono HO111.out (fun _ _ => trivial)⟩, ⟨by (with_reducible repeat (first | apply Kd.R_alloc | apply Kd.R_drewN | apply Kd.R_drew)); exact Kd.R_mono HO114.out (fun _ _ => trivial)⟩, ⟨by (with_reducible repeat (first | apply Kd.R_alloc | apply Kd.R_drewN | apply Kd.R_drew)); exact Kd.R_mono HO117.out (fun _ _ => trivial)⟩, ⟨by (with_reducible repeat (first | apply Kd.R_alloc | apply Kd.R_drewN | apply Kd.R_drew)); exact Kd.R_mono HO120.out (fun _ _ => trivial)⟩, ⟨by (with_reducible repeat (first | apply Kd.R_alloc | apply Kd.R_drewN | apply Kd.R_drew)); exact Kd.R_mono HO123.out (fun _ _ => trivial)⟩, ⟨by (with_reducible repeat (first | apply Kd.R_alloc | apply Kd.R_drewN | apply Kd.R_drew)); exact Kd.R_mono HO126.out (fun _ _ => trivial)⟩, ⟨by (with_reducible repeat (first | apply Kd.R_alloc | apply Kd.R_drewN | apply Kd.R_drew)); exact Kd.R_mono HO129.out (fun _ _ => trivial)⟩, ⟨by (with_reducible repeat (first | apply Kd.R_alloc | apply Kd.R_drewN | apply Kd.R_drew)); exact Kd.R_mono HO132.out (fun _ _ => trivial)⟩, ⟨Sq.kb BK101⟩, ⟨Sq.kb BK133⟩, ⟨Sq.kb BK161⟩, ⟨Sq.kl3 HB GE101 GE133 GE161⟩⟩
  rw [if_neg c45] at H
  have c45b0 : (t162 != t149) = false := by simpa using c45
  (try (have c45b1 : decide (t162 = t149) = true := by simpa using c45))
  (try (have c45b2 : (t162 == t149) = true := by simpa using c45))
  clear c45
  (first | rw [c45b0] | rw [c45b1] | (simp only [i64_w, i32_w]; rw [c45b0]) | skip)
  replace H := Option.bind_eq_some_iff.mp H
  obtain ⟨⟨t163, t166, t169, t172, t175⟩, A490, H⟩ := H
  try dsimp only at H
  have A49 := Aside0.mk A490
  clear A490
  replace H := Option.bind_eq_some_iff.mp H
  obtain ⟨⟨t178, t181, t184, t187, t190⟩, A500, H⟩ := H
  replace H : ((longcaseref06_Same.f t163 t166 t169 t172 t175 t178 t181 t184 t187 t190).bind fun t193 => (longcaselaw06_BlockTells.j0 k a1 a2 t102 t149 t150 t160 (!t193) t103 t106 t109 t112 t115 t153 t154 t155 t156 t157 t158 t159)) = some r := H
  have A50 := Aside0.mk A500
  clear A500
  replace H := Option.bind_eq_some_iff.mp H
  obtain ⟨t193, A510, H⟩ := H
  replace H : (longcaselaw06_BlockTells.j0 k a1 a2 t102 t149 t150 t160 (!t193) t103 t106 t109 t112 t115 t153 t154 t155 t156 t157 t158 t159) = some r := H
  have A51 := Aside0.mk A510
  clear A510
  have H' := Aside0.mk H
  clear H
  try go_wp2
  obtain ⟨w52, hw_⟩ : ∃ x, x = (((((((w40.setCell ⟨gb161, 0, none⟩ (.int .i64 t153)).setCell ⟨gb161, 1, none⟩ (.int .i64 t154)).setCell ⟨gb161, 2, none⟩ (.int .i64 t155)).setCell ⟨gb161, 3, none⟩ (.int .i64 t156)).setCell ⟨gb161, 4, none⟩ (.int .i64 t157)).setCell ⟨gb161, 5, none⟩ (.int .i64 t158)).setCell ⟨gb161, 6, none⟩ (.int .i64 t159)) := ⟨_, rfl⟩
  replace HO105 : Aside0 (Kd.R k56 56 w52 w.heap.size (fun _ => True) (.slice Ao15 t103.length co15) t103) := ⟨by rw [hw_]; (with_reducible repeat (first | apply Kd.R_alloc | apply Kd.R_drewN | apply Kd.R_drew)); exact Kd.R_mono (Sq.rf7 HO105 BK161) (fun _ _ => trivial)⟩
  replace HO108 : Aside0 (Kd.R k54 54 w52 w.heap.size (fun _ => True) (.slice Ao17 t106.length co17) t106) := ⟨by rw [hw_]; (with_reducible repeat (first | apply Kd.R_alloc | apply Kd.R_drewN | apply Kd.R_drew)); exact Kd.R_mono (Sq.rf7 HO108 BK161) (fun _ _ => trivial)⟩
  replace HO111 : Aside0 (Kd.R k67 67 w52 w.heap.size (fun _ => True) (.slice Ao18 t109.length co18) t109) := ⟨by rw [hw_]; (with_reducible repeat (first | apply Kd.R_alloc | apply Kd.R_drewN | apply Kd.R_drew)); exact Kd.R_mono (Sq.rf7 HO111 BK161) (fun _ _ => trivial)⟩
  replace HO114 : Aside0 (Kd.R Kd.bool 4 w52 w.heap.size (fun _ => True) (.slice Ao19 t112.length co19) t112) := ⟨by rw [hw_]; (with_reducible repeat (first | apply Kd.R_alloc | apply Kd.R_drewN | apply Kd.R_drew)); exact Kd.R_mono (Sq.rf7 HO114 BK161) (fun _ _ => trivial)⟩
  replace HO117 : Aside0 (Kd.R Kd.bool 4 w52 w.heap.size (fun _ => True) (.slice Ao20 t115.length co20) t115) := ⟨by rw [hw_]; (with_reducible repeat (first | apply Kd.R_alloc | apply Kd.R_drewN | apply Kd.R_drew)); exact Kd.R_mono (Sq.rf7 HO117 BK161) (fun _ _ => trivial)⟩
  replace HO120 : Aside0 (Kd.R k56 56 w52 w.heap.size (fun _ => True) (.slice Ao23 t118.length co23) t118) := ⟨by rw [hw_]; (with_reducible repeat (first | apply Kd.R_alloc | apply Kd.R_drewN | apply Kd.R_drew)); exact Kd.R_mono (Sq.rf7 HO120 BK161) (fun _ _ => trivial)⟩
  replace HO123 : Aside0 (Kd.R k54 54 w52 w.heap.size (fun _ => True) (.slice Ao26 t121.length co26) t121) := ⟨by rw [hw_]; (with_reducible repeat (first | apply Kd.R_alloc | apply Kd.R_drewN | apply Kd.R_drew)); exact Kd.R_mono (Sq.rf7 HO123 BK161) (fun _ _ => trivial)⟩
  replace HO126 : Aside0 (Kd.R k67 67 w52 w.heap.size (fun _ => True) (.slice Ao27 t124.length co27) t124) := ⟨by rw [hw_]; (with_reducible repeat (first | apply Kd.R_alloc | apply Kd.R_drewN | apply Kd.R_drew)); exact Kd.R_mono (Sq.rf7 HO126 BK161) (fun _ _ => trivial)⟩
  replace HO129 : Aside0 (Kd.R Kd.bool 4 w52 w.heap.size (fun _ => True) (.slice Ao28 t127.length co28) t127) := ⟨by rw [hw_]; (with_reducible repeat (first | apply Kd.R_alloc | apply Kd.R_drewN | apply Kd.R_drew)); exact Kd.R_mono (Sq.rf7 HO129 BK161) (fun _ _ => trivial)⟩
  replace HO132 : Aside0 (Kd.R Kd.bool 4 w52 w.heap.size (fun _ => True) (.slice Ao29 t130.length co29) t130) := ⟨by rw [hw_]; (with_reducible repeat (first | apply Kd.R_alloc | apply Kd.R_drewN | apply Kd.R_drew)); exact Kd.R_mono (Sq.rf7 HO132 BK161) (fun _ _ => trivial)⟩
  replace HO136 : Aside0 (Kd.R k56 56 w52 w.heap.size (fun _ => True) (.slice Ao32 t134.length co32) t134) := ⟨by rw [hw_]; (with_reducible repeat (first | apply Kd.R_alloc | apply Kd.R_drewN | apply Kd.R_drew)); exact Kd.R_mono (Sq.rf7 HO136 BK161) (fun _ _ => trivial)⟩
  replace HO139 : Aside0 (Kd.R k54 54 w52 w.heap.size (fun _ => True) (.slice Ao33 t137.length co33) t137) := ⟨by rw [hw_]; (with_reducible repeat (first | apply Kd.R_alloc | apply Kd.R_drewN | apply Kd.R_drew)); exact Kd.R_mono (Sq.rf7 HO139 BK161) (fun _ _ => trivial)⟩
  replace HO142 : Aside0 (Kd.R k67 67 w52 w.heap.size (fun _ => True) (.slice Ao34 t140.length co34) t140) := ⟨by rw [hw_]; (with_reducible repeat (first | apply Kd.R_alloc | apply Kd.R_drewN | apply Kd.R_drew)); exact Kd.R_mono (Sq.rf7 HO142 BK161) (fun _ _ => trivial)⟩
  replace HO145 : Aside0 (Kd.R Kd.bool 4 w52 w.heap.size (fun _ => True) (.slice Ao35 t143.length co35) t143) := ⟨by rw [hw_]; (with_reducible repeat (first | apply Kd.R_alloc | apply Kd.R_drewN | apply Kd.R_drew)); exact Kd.R_mono (Sq.rf7 HO145 BK161) (fun _ _ => trivial)⟩
  replace HO148 : Aside0 (Kd.R Kd.bool 4 w52 w.heap.size (fun _ => True) (.slice Ao36 t146.length co36) t146) := ⟨by rw [hw_]; (with_reducible repeat (first | apply Kd.R_alloc | apply Kd.R_drewN | apply Kd.R_drew)); exact Kd.R_mono (Sq.rf7 HO148 BK161) (fun _ _ => trivial)⟩
  replace HO152 : Aside0 (Kd.R (Kd.int .u8) 5 w52 w.heap.size (fun _ => True) v151 t150) := ⟨by rw [hw_]; (with_reducible repeat (first | apply Kd.R_alloc | apply Kd.R_drewN | apply Kd.R_drew)); exact Kd.R_mono (Sq.rf7 HO152 BK161) (fun _ hk => trivial)⟩
  replace BK101 : Aside0 (w52.heap[gb101]? = some (.cells #[.slice Ao15 t103.length co15, .slice Ao17 t106.length co17, .slice Ao18 t109.length co18, .slice Ao19 t112.length co19, .slice Ao20 t115.length co20] 27 (0, 0))) := ⟨by rw [hw_]; (with_reducible repeat (first | refine blk_drewN ?_ _ | refine blk_drew ?_ | refine blk_alloc ?_ _)); refine blk_far ?_ NB101_161.out _; (with_reducible repeat (first | refine blk_drewN ?_ _ | refine blk_drew ?_ | refine blk_alloc ?_ _)); refine blk_far ?_ NB101_161.out _; (with_reducible repeat (first | refine blk_drewN ?_ _ | refine blk_drew ?_ | refine blk_alloc ?_ _)); refine blk_far ?_ NB101_161.out _; (with_reducible repeat (first | refine blk_drewN ?_ _ | refine blk_drew ?_ | refine blk_alloc ?_ _)); refine blk_far ?_ NB101_161.out _; (with_reducible repeat (first | refine blk_drewN ?_ _ | refine blk_drew ?_ | refine blk_alloc ?_ _)); refine blk_far ?_ NB101_161.out _; (with_reducible repeat (first | refine blk_drewN ?_ _ | refine blk_drew ?_ | refine blk_alloc ?_ _)); refine blk_far ?_ NB101_161.out _; (with_reducible repeat (first | refine blk_drewN ?_ _ | refine blk_drew ?_ | refine blk_alloc ?_ _)); refine blk_far ?_ NB101_161.out _; exact Sq.kb BK101⟩
  replace BK133 : Aside0 (w52.heap[gb133]? = some (.cells #[.slice Ao23 t118.length co23, .slice Ao26 t121.length co26, .slice Ao27 t124.length co27, .slice Ao28 t127.length co28, .slice Ao29 t130.length co29] 27 (0, 0))) := ⟨by rw [hw_]; (with_reducible repeat (first | refine blk_drewN ?_ _ | refine blk_drew ?_ | refine blk_alloc ?_ _)); refine blk_far ?_ NB133_161.out _; (with_reducible repeat (first | refine blk_drewN ?_ _ | refine blk_drew ?_ | refine blk_alloc ?_ _)); refine blk_far ?_ NB133_161.out _; (with_reducible repeat (first | refine blk_drewN ?_ _ | refine blk_drew ?_ | refine blk_alloc ?_ _)); refine blk_far ?_ NB133_161.out _; (with_reducible repeat (first | refine blk_drewN ?_ _ | refine blk_drew ?_ | refine blk_alloc ?_ _)); refine blk_far ?_ NB133_161.out _; (with_reducible repeat (first | refine blk_drewN ?_ _ | refine blk_drew ?_ | refine blk_alloc ?_ _)); refine blk_far ?_ NB133_161.out _; (with_reducible repeat (first | refine blk_drewN ?_ _ | refine blk_drew ?_ | refine blk_alloc ?_ _)); refine blk_far ?_ NB133_161.out _; (with_reducible repeat (first | refine blk_drewN ?_ _ | refine blk_drew ?_ | refine blk_alloc ?_ _)); refine blk_far ?_ NB133_161.out _; exact Sq.kb BK133⟩
  replace BK161 : Aside0 (w52.heap[gb161]? = some (.cells #[.int .i64 t153, .int .i64 t154, .int .i64 t155, .int .i64 t156, .int .i64 t157, .int .i64 t158, .int .i64 t159] 35 (0, 0))) := ⟨by rw [hw_]; (with_reducible repeat (first | refine blk_drewN ?_ _ | refine blk_drew ?_ | refine blk_alloc ?_ _)); refine blk_put (cs := #[.int .i64 t153, .int .i64 t154, .int .i64 t155, .int .i64 t156, .int .i64 t157, .int .i64 t158, .int .i64 0]) ?_ 6 _ rfl; (with_reducible repeat (first | refine blk_drewN ?_ _ | refine blk_drew ?_ | refine blk_alloc ?_ _)); refine blk_put (cs := #[.int .i64 t153, .int .i64 t154, .int .i64 t155, .int .i64 t156, .int .i64 t157, .int .i64 0, .int .i64 0]) ?_ 5 _ rfl; (with_reducible repeat (first | refine blk_drewN ?_ _ | refine blk_drew ?_ | refine blk_alloc ?_ _)); refine blk_put (cs := #[.int .i64 t153, .int .i64 t154, .int .i64 t155, .int .i64 t156, .int .i64 0, .int .i64 0, .int .i64 0]) ?_ 4 _ rfl; (with_reducible repeat (first | refine blk_drewN ?_ _ | refine blk_drew ?_ | refine blk_alloc ?_ _)); refine blk_put (cs := #[.int .i64 t153, .int .i64 t154, .int .i64 t155, .int .i64 0, .int .i64 0, .int .i64 0, .int .i64 0]) ?_ 3 _ rfl; (with_reducible repeat (first | refine blk_drewN ?_ _ | refine blk_drew ?_ | refine blk_alloc ?_ _)); refine blk_put (cs := #[.int .i64 t153, .int .i64 t154, .int .i64 0, .int .i64 0, .int .i64 0, .int .i64 0, .int .i64 0]) ?_ 2 _ rfl; (with_reducible repeat (first | refine blk_drewN ?_ _ | refine blk_drew ?_ | refine blk_alloc ?_ _)); refine blk_put (cs := #[.int .i64 t153, .int .i64 0, .int .i64 0, .int .i64 0, .int .i64 0, .int .i64 0, .int .i64 0]) ?_ 1 _ rfl; (with_reducible repeat (first | refine blk_drewN ?_ _ | refine blk_drew ?_ | refine blk_alloc ?_ _)); refine blk_put (cs := #[.int .i64 0, .int .i64 0, .int .i64 0, .int .i64 0, .int .i64 0, .int .i64 0, .int .i64 0]) ?_ 0 _ rfl; exact Sq.kb BK161⟩
  replace HB : Aside0 (Below w.heap.size w w52) := ⟨by rw [hw_]; exact Sq.kl3 HB GE101 GE133 GE161⟩
  rw [← hw_]
  clear hw_
  replace HO105 := Aside0.mk (Kd.R_drew HO105.out)
  replace HO108 := Aside0.mk (Kd.R_drew HO108.out)
  replace HO111 := Aside0.mk (Kd.R_drew HO111.out)
  replace HO114 := Aside0.mk (Kd.R_drew HO114.out)
  replace HO117 := Aside0.mk (Kd.R_drew HO117.out)
  replace HO120 := Aside0.mk (Kd.R_drew HO120.out)
  replace HO123 := Aside0.mk (Kd.R_drew HO123.out)
  replace HO126 := Aside0.mk (Kd.R_drew HO126.out)
  replace HO129 := Aside0.mk (Kd.R_drew HO129.out)
  replace HO132 := Aside0.mk (Kd.R_drew HO132.out)
  replace HO136 := Aside0.mk (Kd.R_drew HO136.out)
  replace HO139 := Aside0.mk (Kd.R_drew HO139.out)
  replace HO142 := Aside0.mk (Kd.R_drew HO142.out)
  replace HO145 := Aside0.mk (Kd.R_drew HO145.out)
  replace HO148 := Aside0.mk (Kd.R_drew HO148.out)
  replace HO152 := Aside0.mk (Kd.R_drew HO152.out)
  replace BK101 := Aside0.mk (blk_drew BK101.out)
  replace BK133 := Aside0.mk (blk_drew BK133.out)
  replace BK161 := Aside0.mk (blk_drew BK161.out)
  replace HB := Aside0.mk (below_drew1 HB.out)
  refine start_ (n := 14) (S := fun w' => w'.cell? ⟨gb101, 0, none⟩ = some (.slice Ao15 t103.length co15) ∧ w'.cell? ⟨gb101, 1, none⟩ = some (.slice Ao17 t106.length co17) ∧ w'.cell? ⟨gb101, 2, none⟩ = some (.slice Ao18 t109.length co18) ∧ w'.cell? ⟨gb101, 3, none⟩ = some (.slice Ao19 t112.length co19) ∧ w'.cell? ⟨gb101, 4, none⟩ = some (.slice Ao20 t115.length co20) ∧ w'.cell? ⟨gb133, 0, none⟩ = some (.slice Ao23 t118.length co23) ∧ w'.cell? ⟨gb133, 1, none⟩ = some (.slice Ao26 t121.length co26) ∧ w'.cell? ⟨gb133, 2, none⟩ = some (.slice Ao27 t124.length co27) ∧ w'.cell? ⟨gb133, 3, none⟩ = some (.slice Ao28 t127.length co28) ∧ w'.cell? ⟨gb133, 4, none⟩ = some (.slice Ao29 t130.length co29)) (ds := []) (Sq.bm 14 0) (by kernel_rfl) rfl (by kernel_rfl) ⟨(blk_cell BK101.out 0).trans rfl, (blk_cell BK101.out 1).trans rfl, (blk_cell BK101.out 2).trans rfl, (blk_cell BK101.out 3).trans rfl, (blk_cell BK101.out 4).trans rfl, (blk_cell BK133.out 0).trans rfl, (blk_cell BK133.out 1).trans rfl, (blk_cell BK133.out 2).trans rfl, (blk_cell BK133.out 3).trans rfl, (blk_cell BK133.out 4).trans rfl⟩ (fun hHeld => ?_); refine with_tabW longcaselaw06_BlockTells.tab6 longcaselaw06_BlockTells.bits6 (fun HT_ HW_ => ?_)
  generalize w52.drew = w53 at HO105 HO108 HO111 HO114 HO117 HO120 HO123 HO126 HO129 HO132 HO136 HO139 HO142 HO145 HO148 HO152 BK101 BK133 BK161 HB hHeld ⊢
  refine Sq.pv 1 34 2 HT_ ?_
  refine Sq.pv 2 35 6 HT_ ?_
  refine Sq.pv 4 37 22 HT_ ?_
  refine Sq.tv 0 33 23 HT_ HW_ hHeld ?_
  refine one_ (i := 3) (N := some 36) (bm 14 31) rfl rfl (one_of HT_.out (by kernel_rfl)) (by decide) (fun K hK => ?_)
  refine goes_ Try.func16 (by kernel_rfl) rfl #[.agg #[.slice Ao15 t103.length co15, .slice Ao17 t106.length co17, .slice Ao18 t109.length co18, .slice Ao19 t112.length co19, .slice Ao20 t115.length co20], .int .i64 a1, .int .i64 a2] (by rfl) rfl rfl (by (try simp only [List.map_toArray, List.map_cons, List.map_nil]); first | done | rfl | (simp only [List.length_drop, List.length_take]; rfl)) ?_
  with_reducible refine (block_Right.calls _ _ t103 _ _ t106 _ _ t109 _ _ t112 _ _ t115 a1 a2 t162 _ ?side1 ?side2 ?side3 ?side4 ?side5 ?side6 ?side7 ?side8 ?side9 ?side10 A44.out).mono ?_
  (case side1 => exact Sq.qc HO105)
  (case side2 => exact Sq.ql HO105)
  (case side3 => exact Sq.qc HO108)
  (case side4 => exact Sq.ql HO108)
  (case side5 => exact Sq.qc HO111)
  (case side6 => exact Sq.ql HO111)
  (case side7 => exact Sq.qc HO114)
  (case side8 => exact Sq.ql HO114)
  (case side9 => exact Sq.qc HO117)
  (case side10 => exact Sq.ql HO117)
  rintro e w54 ⟨rfl, hb⟩
  refine ⟨_, rfl, ?_⟩
  replace HO105 := krb HO105 hb
  replace HO108 := krb HO108 hb
  replace HO111 := krb HO111 hb
  replace HO114 := krb HO114 hb
  replace HO117 := krb HO117 hb
  replace HO120 := krb HO120 hb
  replace HO123 := krb HO123 hb
  replace HO126 := krb HO126 hb
  replace HO129 := krb HO129 hb
  replace HO132 := krb HO132 hb
  replace HO136 := krb HO136 hb
  replace HO139 := krb HO139 hb
  replace HO142 := krb HO142 hb
  replace HO145 := krb HO145 hb
  replace HO148 := krb HO148 hb
  replace HO152 := krb HO152 hb
  replace BK101 := kbb BK101 hb
  replace BK133 := kbb BK133 hb
  replace BK161 := kbb BK161 hb
  replace HB := Aside0.mk (below_step (Sq.kl3 HB GE101 GE133 GE161) hb)
  (try clear hb)
  (try clear hk)
  refine hK.out _ _ ⟨(blk_cell BK101.out 0).trans rfl, (blk_cell BK101.out 1).trans rfl, (blk_cell BK101.out 2).trans rfl, (blk_cell BK101.out 3).trans rfl, (blk_cell BK101.out 4).trans rfl, (blk_cell BK133.out 0).trans rfl, (blk_cell BK133.out 1).trans rfl, (blk_cell BK133.out 2).trans rfl, (blk_cell BK133.out 3).trans rfl, (blk_cell BK133.out 4).trans rfl⟩ (fun hHeld => ?_)
  clear hK K
  refine norm_ (a' := ?_) ?_ ?_
  rotate_left
  ·
   show Act.put _ (some 36) _ = _
   simp only [Act.put, List.setIfInBounds_toArray, List.set_cons_zero, List.set_cons_succ, i64_w, i32_w]
   rfl
  refine Sq.pv 5 38 63 HT_ ?_
  refine Sq.pv 6 39 127 HT_ ?_
  refine Sq.tv 7 40 255 HT_ HW_ hHeld ?_
  refine Sq.tv 9 42 767 HT_ HW_ hHeld ?_
  refine one_ (i := 8) (N := some 41) (bm 14 1023) rfl rfl (one_of HT_.out (by kernel_rfl)) (by decide) (fun K hK => ?_)
  refine goes_ Try.func14 (by kernel_rfl) rfl #[.agg #[.slice Ao15 t103.length co15, .slice Ao17 t106.length co17, .slice Ao18 t109.length co18, .slice Ao19 t112.length co19, .slice Ao20 t115.length co20]] (by rfl) rfl rfl (by (try simp only [List.map_toArray, List.map_cons, List.map_nil]); first | done | rfl | (simp only [List.length_drop, List.length_take]; rfl)) ?_
  with_reducible refine (longcaselaw06_ref.calls _ _ t103 _ _ t106 _ _ t109 _ _ t112 _ _ t115 t163 t166 t169 t172 t175 _ A49.out).mono ?_
  rintro e w55 ⟨v164, v167, v170, v173, v176, rfl, ho0, ho1, ho2, ho3, ho4, hb⟩
  refine ⟨_, rfl, ?_⟩
  replace HO120 := krb HO120 hb
  replace HO123 := krb HO123 hb
  replace HO126 := krb HO126 hb
  replace HO129 := krb HO129 hb
  replace HO132 := krb HO132 hb
  replace HO136 := krb HO136 hb
  replace HO139 := krb HO139 hb
  replace HO142 := krb HO142 hb
  replace HO145 := krb HO145 hb
  replace HO148 := krb HO148 hb
  replace HO152 := krb HO152 hb
  have HO165 := Aside0.mk (ho0 _ _ (kr HO105))
  replace HO105 := krb HO105 hb
  have HO168 := Aside0.mk (ho1 _ _ (kr HO108))
  replace HO108 := krb HO108 hb
  have HO171 := Aside0.mk (ho2 _ _ (kr HO111))
  replace HO111 := krb HO111 hb
  have HO174 := Aside0.mk (ho3 _ _ (kr HO114))
  replace HO114 := krb HO114 hb
  have HO177 := Aside0.mk (ho4 _ _ (kr HO117))
  replace HO117 := krb HO117 hb
  replace BK101 := kbb BK101 hb
  replace BK133 := kbb BK133 hb
  replace BK161 := kbb BK161 hb
  replace HB := Aside0.mk (below_step (Sq.kl3 HB GE101 GE133 GE161) hb)
  (try clear hb)
  (try clear hk)
  (try clear ho0)
  (try clear ho1)
  (try clear ho2)
  (try clear ho3)
  (try clear ho4)
  refine hK.out _ _ ⟨(blk_cell BK101.out 0).trans rfl, (blk_cell BK101.out 1).trans rfl, (blk_cell BK101.out 2).trans rfl, (blk_cell BK101.out 3).trans rfl, (blk_cell BK101.out 4).trans rfl, (blk_cell BK133.out 0).trans rfl, (blk_cell BK133.out 1).trans rfl, (blk_cell BK133.out 2).trans rfl, (blk_cell BK133.out 3).trans rfl, (blk_cell BK133.out 4).trans rfl⟩ (fun hHeld => ?_)
  clear hK K
  refine norm_ (a' := ?_) ?_ ?_
  rotate_left
  ·
   show Act.put _ (some 41) _ = _
   simp only [Act.put, List.setIfInBounds_toArray, List.set_cons_zero, List.set_cons_succ, i64_w, i32_w]
   rfl
  refine one_ (i := 10) (N := some 43) (bm 14 2047) rfl rfl (one_of HT_.out (by kernel_rfl)) (by decide) (fun K hK => ?_)
  refine goes_ Try.func14 (by kernel_rfl) rfl #[.agg #[.slice Ao23 t118.length co23, .slice Ao26 t121.length co26, .slice Ao27 t124.length co27, .slice Ao28 t127.length co28, .slice Ao29 t130.length co29]] (by rfl) rfl rfl (by (try simp only [List.map_toArray, List.map_cons, List.map_nil]); first | done | rfl | (simp only [List.length_drop, List.length_take]; rfl)) ?_
  with_reducible refine (longcaselaw06_ref.calls _ _ t118 _ _ t121 _ _ t124 _ _ t127 _ _ t130 t178 t181 t184 t187 t190 _ A50.out).mono ?_
  rintro e w56 ⟨v179, v182, v185, v188, v191, rfl, ho0, ho1, ho2, ho3, ho4, hb⟩
  refine ⟨_, rfl, ?_⟩
  replace HO105 := krb HO105 hb
  replace HO108 := krb HO108 hb
  replace HO111 := krb HO111 hb
  replace HO114 := krb HO114 hb
  replace HO117 := krb HO117 hb
  replace HO136 := krb HO136 hb
  replace HO139 := krb HO139 hb
  replace HO142 := krb HO142 hb
  replace HO145 := krb HO145 hb
  replace HO148 := krb HO148 hb
  replace HO152 := krb HO152 hb
  replace HO165 := krb HO165 hb
  replace HO168 := krb HO168 hb
  replace HO171 := krb HO171 hb
  replace HO174 := krb HO174 hb
  replace HO177 := krb HO177 hb
  have HO180 := Aside0.mk (ho0 _ _ (kr HO120))
  replace HO120 := krb HO120 hb
  have HO183 := Aside0.mk (ho1 _ _ (kr HO123))
  replace HO123 := krb HO123 hb
  have HO186 := Aside0.mk (ho2 _ _ (kr HO126))
  replace HO126 := krb HO126 hb
  have HO189 := Aside0.mk (ho3 _ _ (kr HO129))
  replace HO129 := krb HO129 hb
  have HO192 := Aside0.mk (ho4 _ _ (kr HO132))
  replace HO132 := krb HO132 hb
  replace BK101 := kbb BK101 hb
  replace BK133 := kbb BK133 hb
  replace BK161 := kbb BK161 hb
  replace HB := Aside0.mk (below_step (Sq.kl3 HB GE101 GE133 GE161) hb)
  (try clear hb)
  (try clear hk)
  (try clear ho0)
  (try clear ho1)
  (try clear ho2)
  (try clear ho3)
  (try clear ho4)
  obtain ⟨Ao57, co57, eo57⟩ := Kd.R_slice HO165.out
  (first | subst eo57 | (injection eo57 with f1_ f2_ f3_; have f4_ := f1_.symm; have f5_ := f3_.symm; clear f1_ f2_ f3_; subst f4_; subst f5_))
  obtain ⟨Ao58, co58, eo58⟩ := Kd.R_slice HO168.out
  (first | subst eo58 | (injection eo58 with f1_ f2_ f3_; have f4_ := f1_.symm; have f5_ := f3_.symm; clear f1_ f2_ f3_; subst f4_; subst f5_))
  obtain ⟨Ao59, co59, eo59⟩ := Kd.R_slice HO171.out
  (first | subst eo59 | (injection eo59 with f1_ f2_ f3_; have f4_ := f1_.symm; have f5_ := f3_.symm; clear f1_ f2_ f3_; subst f4_; subst f5_))
  obtain ⟨Ao60, co60, eo60⟩ := Kd.R_slice HO174.out
  (first | subst eo60 | (injection eo60 with f1_ f2_ f3_; have f4_ := f1_.symm; have f5_ := f3_.symm; clear f1_ f2_ f3_; subst f4_; subst f5_))
  obtain ⟨Ao61, co61, eo61⟩ := Kd.R_slice HO177.out
  (first | subst eo61 | (injection eo61 with f1_ f2_ f3_; have f4_ := f1_.symm; have f5_ := f3_.symm; clear f1_ f2_ f3_; subst f4_; subst f5_))
  obtain ⟨Ao62, co62, eo62⟩ := Kd.R_slice HO180.out
  (first | subst eo62 | (injection eo62 with f1_ f2_ f3_; have f4_ := f1_.symm; have f5_ := f3_.symm; clear f1_ f2_ f3_; subst f4_; subst f5_))
  obtain ⟨Ao63, co63, eo63⟩ := Kd.R_slice HO183.out
  (first | subst eo63 | (injection eo63 with f1_ f2_ f3_; have f4_ := f1_.symm; have f5_ := f3_.symm; clear f1_ f2_ f3_; subst f4_; subst f5_))
  obtain ⟨Ao64, co64, eo64⟩ := Kd.R_slice HO186.out
  (first | subst eo64 | (injection eo64 with f1_ f2_ f3_; have f4_ := f1_.symm; have f5_ := f3_.symm; clear f1_ f2_ f3_; subst f4_; subst f5_))
  obtain ⟨Ao65, co65, eo65⟩ := Kd.R_slice HO189.out
  (first | subst eo65 | (injection eo65 with f1_ f2_ f3_; have f4_ := f1_.symm; have f5_ := f3_.symm; clear f1_ f2_ f3_; subst f4_; subst f5_))
  obtain ⟨Ao66, co66, eo66⟩ := Kd.R_slice HO192.out
  (first | subst eo66 | (injection eo66 with f1_ f2_ f3_; have f4_ := f1_.symm; have f5_ := f3_.symm; clear f1_ f2_ f3_; subst f4_; subst f5_))
  refine hK.out _ _ ⟨(blk_cell BK101.out 0).trans rfl, (blk_cell BK101.out 1).trans rfl, (blk_cell BK101.out 2).trans rfl, (blk_cell BK101.out 3).trans rfl, (blk_cell BK101.out 4).trans rfl, (blk_cell BK133.out 0).trans rfl, (blk_cell BK133.out 1).trans rfl, (blk_cell BK133.out 2).trans rfl, (blk_cell BK133.out 3).trans rfl, (blk_cell BK133.out 4).trans rfl⟩ (fun hHeld => ?_)
  clear hK K
  refine norm_ (a' := ?_) ?_ ?_
  rotate_left
  ·
   show Act.put _ (some 43) _ = _
   simp only [Act.put, List.setIfInBounds_toArray, List.set_cons_zero, List.set_cons_succ, i64_w, i32_w]
   rfl
  refine one_ (i := 11) (N := some 44) (bm 14 4095) rfl rfl (one_of HT_.out (by kernel_rfl)) (by decide) (fun K hK => ?_)
  refine goes_ Try.func17 (by kernel_rfl) rfl #[.agg #[.slice Ao57 t163.length co57, .slice Ao58 t166.length co58, .slice Ao59 t169.length co59, .slice Ao60 t172.length co60, .slice Ao61 t175.length co61], .agg #[.slice Ao62 t178.length co62, .slice Ao63 t181.length co63, .slice Ao64 t184.length co64, .slice Ao65 t187.length co65, .slice Ao66 t190.length co66]] (by rfl) rfl rfl (by (try simp only [List.map_toArray, List.map_cons, List.map_nil]); first | done | rfl | (simp only [List.length_drop, List.length_take]; rfl)) ?_
  with_reducible refine (longcaseref06_Same.calls _ _ t163 _ _ t166 _ _ t169 _ _ t172 _ _ t175 _ _ t178 _ _ t181 _ _ t184 _ _ t187 _ _ t190 t193 _ ?side1 ?side2 ?side3 ?side4 ?side5 ?side6 ?side7 ?side8 ?side9 ?side10 ?side11 ?side12 ?side13 ?side14 ?side15 ?side16 ?side17 ?side18 ?side19 ?side20 A51.out).mono ?_
  (case side1 => exact Sq.qc HO165)
  (case side2 => exact Sq.ql HO165)
  (case side3 => exact Sq.qc HO168)
  (case side4 => exact Sq.ql HO168)
  (case side5 => exact Sq.qc HO171)
  (case side6 => exact Sq.ql HO171)
  (case side7 => exact Sq.qc HO174)
  (case side8 => exact Sq.ql HO174)
  (case side9 => exact Sq.qc HO177)
  (case side10 => exact Sq.ql HO177)
  (case side11 => exact Sq.qc HO180)
  (case side12 => exact Sq.ql HO180)
  (case side13 => exact Sq.qc HO183)
  (case side14 => exact Sq.ql HO183)
  (case side15 => exact Sq.qc HO186)
  (case side16 => exact Sq.ql HO186)
  (case side17 => exact Sq.qc HO189)
  (case side18 => exact Sq.ql HO189)
  (case side19 => exact Sq.qc HO192)
  (case side20 => exact Sq.ql HO192)
  rintro e w67 ⟨rfl, hb⟩
  refine ⟨_, rfl, ?_⟩
  replace HO105 := krb HO105 hb
  replace HO108 := krb HO108 hb
  replace HO111 := krb HO111 hb
  replace HO114 := krb HO114 hb
  replace HO117 := krb HO117 hb
  replace HO120 := krb HO120 hb
  replace HO123 := krb HO123 hb
  replace HO126 := krb HO126 hb
  replace HO129 := krb HO129 hb
  replace HO132 := krb HO132 hb
  replace HO136 := krb HO136 hb
  replace HO139 := krb HO139 hb
  replace HO142 := krb HO142 hb
  replace HO145 := krb HO145 hb
  replace HO148 := krb HO148 hb
  replace HO152 := krb HO152 hb
  replace HO165 := krb HO165 hb
  replace HO168 := krb HO168 hb
  replace HO171 := krb HO171 hb
  replace HO174 := krb HO174 hb
  replace HO177 := krb HO177 hb
  replace HO180 := krb HO180 hb
  replace HO183 := krb HO183 hb
  replace HO186 := krb HO186 hb
  replace HO189 := krb HO189 hb
  replace HO192 := krb HO192 hb
  replace BK101 := kbb BK101 hb
  replace BK133 := kbb BK133 hb
  replace BK161 := kbb BK161 hb
  replace HB := Aside0.mk (below_step (Sq.kl3 HB GE101 GE133 GE161) hb)
  (try clear hb)
  refine hK.out _ _ ⟨(blk_cell BK101.out 0).trans rfl, (blk_cell BK101.out 1).trans rfl, (blk_cell BK101.out 2).trans rfl, (blk_cell BK101.out 3).trans rfl, (blk_cell BK101.out 4).trans rfl, (blk_cell BK133.out 0).trans rfl, (blk_cell BK133.out 1).trans rfl, (blk_cell BK133.out 2).trans rfl, (blk_cell BK133.out 3).trans rfl, (blk_cell BK133.out 4).trans rfl⟩ (fun hHeld => ?_)
  clear hK K
  refine norm_ (a' := ?_) ?_ ?_
  rotate_left
  ·
   show Act.put _ (some 44) _ = _
   simp only [Act.put, List.setIfInBounds_toArray, List.set_cons_zero, List.set_cons_succ, i64_w, i32_w]
   rfl
  refine Sq.pv 12 45 8191 HT_ ?_
  refine Sq.pv 13 46 16383 HT_ ?_
  refine done_ (done_of HT_.out (by kernel_rfl)) ?_
  try go_wp2
  go_meet
  case rel => exact ⟨_, (!t193), (by first | rfl | (simp; done) | (simp [*]; done)), H', ⟨by first | omega | exact Nat.le_refl _⟩, ⟨by (with_reducible repeat (first | apply Kd.R_alloc | apply Kd.R_drewN | apply Kd.R_drew)); exact HO152.out⟩, ⟨by (with_reducible repeat (first | apply Kd.R_alloc | apply Kd.R_drewN | apply Kd.R_drew)); exact Kd.R_mono HO105.out (fun _ _ => trivial)⟩, ⟨by (with_reducible repeat (first | apply Kd.R_alloc | apply Kd.R_drewN | apply Kd.R_drew)); exact Kd.R_mono HO108.out (fun _ _ => trivial)⟩, ⟨by (with_reducible repeat (first | apply Kd.R_alloc | apply Kd.R_drewN | apply Kd.R_drew)); exact Kd.R_mono HO111.out (fun _ _ => trivial)⟩, ⟨by (with_reducible repeat (first | apply Kd.R_alloc | apply Kd.R_drewN | apply Kd.R_drew)); exact Kd.R_mono HO114.out (fun _ _ => trivial)⟩, ⟨by (with_reducible repeat (first | apply Kd.R_alloc | apply Kd.R_drewN | apply Kd.R_drew)); exact Kd.R_mono HO117.out (fun _ _ => trivial)⟩, ⟨by (with_reducible repeat (first | apply Kd.R_alloc | apply Kd.R_drewN | apply Kd.R_drew)); exact Kd.R_mono HO120.out (fun _ _ => trivial)⟩, ⟨by (with_reducible repeat (first | apply Kd.R_alloc | apply Kd.R_drewN | apply Kd.R_drew)); exact Kd.R_mono HO123.out (fun _ _ => trivial)⟩, ⟨by (with_reducible repeat (first | apply Kd.R_alloc | apply Kd.R_drewN | apply Kd.R_drew)); exact Kd.R_mono HO126.out (fun _ _ => trivial)⟩, ⟨by (with_reducible repeat (first | apply Kd.R_alloc | apply Kd.R_drewN | apply Kd.R_drew)); exact Kd.R_mono HO129.out (fun _ _ => trivial)⟩, ⟨by (with_reducible repeat (first | apply Kd.R_alloc | apply Kd.R_drewN | apply Kd.R_drew)); exact Kd.R_mono HO132.out (fun _ _ => trivial)⟩, ⟨Sq.kb BK101⟩, ⟨Sq.kb BK133⟩, ⟨Sq.kb BK161⟩, ⟨Sq.kl3 HB GE101 GE133 GE161⟩⟩
 clear HC10
 try clear c1
 try clear p2
 try clear c14
 try clear c16
 try clear c17
 obtain ⟨kq, x46_9, rfl, HA, HJ9, HO_10, HO_102000, HO_102001, HO_102002, HO_102003, HO_102004, HO_134000, HO_134001, HO_134002, HO_134003, HO_134004, BK101, BK133, BK161, HB⟩ := hcut
 cases kq with
 | zero => exact absurd HA.out (by simp [longcaselaw06_BlockTells.j0])
 | succ kj9 =>
  have H := HA.out
  clear HA
  simp only [longcaselaw06_BlockTells.j0] at H
  by_cases c68 : x46_9 = true
  ·
   subst c68
   rw [if_pos rfl] at H
   exact Bool.noConfusion ((Option.some.inj H).trans HRT.out)
  replace c68 := Bool.eq_false_iff.mpr c68
  subst c68
  rw [if_neg (show ¬ (false = true) by decide)] at H
  have HC69 := Aside0.mk H
  clear H
  go_upto_region 8 with (fail)
  go_cut [56] (fun v56 wc => ∃ (kq : Nat) (x56_68 : Bool), v56 = .bool x56_68 ∧ Aside0 (longcaselaw06_BlockTells.j1 kq a1 a2 t102 t150 t160 x56_68 t103 t106 t109 t112 t115 t153 t154 t155 t156 t157 t158 t159 = some r) ∧ Aside0 (kq ≤ kj9) ∧ Aside0 (Kd.R (Kd.int .u8) 5 wc w.heap.size (fun _ => True) v151 t150) ∧ Aside0 (Kd.R k56 56 wc w.heap.size (fun _ => True) (.slice Ao15 t103.length co15) t103) ∧ Aside0 (Kd.R k54 54 wc w.heap.size (fun _ => True) (.slice Ao17 t106.length co17) t106) ∧ Aside0 (Kd.R k67 67 wc w.heap.size (fun _ => True) (.slice Ao18 t109.length co18) t109) ∧ Aside0 (Kd.R Kd.bool 4 wc w.heap.size (fun _ => True) (.slice Ao19 t112.length co19) t112) ∧ Aside0 (Kd.R Kd.bool 4 wc w.heap.size (fun _ => True) (.slice Ao20 t115.length co20) t115) ∧ Aside0 (Kd.R k56 56 wc w.heap.size (fun _ => True) (.slice Ao23 t118.length co23) t118) ∧ Aside0 (Kd.R k54 54 wc w.heap.size (fun _ => True) (.slice Ao26 t121.length co26) t121) ∧ Aside0 (Kd.R k67 67 wc w.heap.size (fun _ => True) (.slice Ao27 t124.length co27) t124) ∧ Aside0 (Kd.R Kd.bool 4 wc w.heap.size (fun _ => True) (.slice Ao28 t127.length co28) t127) ∧ Aside0 (Kd.R Kd.bool 4 wc w.heap.size (fun _ => True) (.slice Ao29 t130.length co29) t130) ∧ Aside0 (wc.heap[gb101]? = some (.cells #[(.slice Ao15 t103.length co15), (.slice Ao17 t106.length co17), (.slice Ao18 t109.length co18), (.slice Ao19 t112.length co19), (.slice Ao20 t115.length co20)] 27 (0, 0))) ∧ Aside0 (wc.heap[gb133]? = some (.cells #[(.slice Ao23 t118.length co23), (.slice Ao26 t121.length co26), (.slice Ao27 t124.length co27), (.slice Ao28 t127.length co28), (.slice Ao29 t130.length co29)] 27 (0, 0))) ∧ Aside0 (wc.heap[gb161]? = some (.cells #[.int .i64 t153, .int .i64 t154, .int .i64 t155, .int .i64 t156, .int .i64 t157, .int .i64 t158, .int .i64 t159] 35 (0, 0))) ∧ Aside0 (Below w.heap.size w wc))
  case first =>
   have H := HC69.out
   clear HC69
   by_cases c70 : t149 = true
   rotate_left
   ·
    replace c70 := Bool.eq_false_iff.mpr c70
    subst c70
    rw [if_neg (show ¬ (false = true) by decide)] at H
    have H' := Aside0.mk H
    clear H
    go_wp2
    go_meet
    case rel => exact ⟨_, (true), (by first | rfl | (simp; done) | (simp [*]; done)), H', ⟨by have := HJ9.out; first | omega | exact Nat.le_refl _⟩, ⟨by (with_reducible repeat (first | apply Kd.R_alloc | apply Kd.R_drewN | apply Kd.R_drew)); exact HO_10.out⟩, ⟨by (with_reducible repeat (first | apply Kd.R_alloc | apply Kd.R_drewN | apply Kd.R_drew)); exact HO_102000.out⟩, ⟨by (with_reducible repeat (first | apply Kd.R_alloc | apply Kd.R_drewN | apply Kd.R_drew)); exact HO_102001.out⟩, ⟨by (with_reducible repeat (first | apply Kd.R_alloc | apply Kd.R_drewN | apply Kd.R_drew)); exact HO_102002.out⟩, ⟨by (with_reducible repeat (first | apply Kd.R_alloc | apply Kd.R_drewN | apply Kd.R_drew)); exact HO_102003.out⟩, ⟨by (with_reducible repeat (first | apply Kd.R_alloc | apply Kd.R_drewN | apply Kd.R_drew)); exact HO_102004.out⟩, ⟨by (with_reducible repeat (first | apply Kd.R_alloc | apply Kd.R_drewN | apply Kd.R_drew)); exact HO_134000.out⟩, ⟨by (with_reducible repeat (first | apply Kd.R_alloc | apply Kd.R_drewN | apply Kd.R_drew)); exact HO_134001.out⟩, ⟨by (with_reducible repeat (first | apply Kd.R_alloc | apply Kd.R_drewN | apply Kd.R_drew)); exact HO_134002.out⟩, ⟨by (with_reducible repeat (first | apply Kd.R_alloc | apply Kd.R_drewN | apply Kd.R_drew)); exact HO_134003.out⟩, ⟨by (with_reducible repeat (first | apply Kd.R_alloc | apply Kd.R_drewN | apply Kd.R_drew)); exact HO_134004.out⟩, ⟨Sq.kb BK101⟩, ⟨Sq.kb BK133⟩, ⟨Sq.kb BK161⟩, ⟨Sq.kl3 HB GE101 GE133 GE161⟩⟩
   subst c70
   rw [if_pos rfl] at H
   by_cases c71 : a2 < 1
   ·
    rw [if_pos c71] at H
    have c71b0 : decide (a2 < 1) = true := decide_eq_true c71
    clear c71
    (first | rw [c71b0] | rw [c71b1] | (simp only [i64_w, i32_w]; rw [c71b0]) | skip)
    have H' := Aside0.mk H
    clear H
    go_wp2
    go_meet
    case rel => exact ⟨_, (true), (by first | rfl | (simp; done) | (simp [*]; done)), H', ⟨by have := HJ9.out; first | omega | exact Nat.le_refl _⟩, ⟨by (with_reducible repeat (first | apply Kd.R_alloc | apply Kd.R_drewN | apply Kd.R_drew)); exact HO_10.out⟩, ⟨by (with_reducible repeat (first | apply Kd.R_alloc | apply Kd.R_drewN | apply Kd.R_drew)); exact HO_102000.out⟩, ⟨by (with_reducible repeat (first | apply Kd.R_alloc | apply Kd.R_drewN | apply Kd.R_drew)); exact HO_102001.out⟩, ⟨by (with_reducible repeat (first | apply Kd.R_alloc | apply Kd.R_drewN | apply Kd.R_drew)); exact HO_102002.out⟩, ⟨by (with_reducible repeat (first | apply Kd.R_alloc | apply Kd.R_drewN | apply Kd.R_drew)); exact HO_102003.out⟩, ⟨by (with_reducible repeat (first | apply Kd.R_alloc | apply Kd.R_drewN | apply Kd.R_drew)); exact HO_102004.out⟩, ⟨by (with_reducible repeat (first | apply Kd.R_alloc | apply Kd.R_drewN | apply Kd.R_drew)); exact HO_134000.out⟩, ⟨by (with_reducible repeat (first | apply Kd.R_alloc | apply Kd.R_drewN | apply Kd.R_drew)); exact HO_134001.out⟩, ⟨by (with_reducible repeat (first | apply Kd.R_alloc | apply Kd.R_drewN | apply Kd.R_drew)); exact HO_134002.out⟩, ⟨by (with_reducible repeat (first | apply Kd.R_alloc | apply Kd.R_drewN | apply Kd.R_drew)); exact HO_134003.out⟩, ⟨by (with_reducible repeat (first | apply Kd.R_alloc | apply Kd.R_drewN | apply Kd.R_drew)); exact HO_134004.out⟩, ⟨Sq.kb BK101⟩, ⟨Sq.kb BK133⟩, ⟨Sq.kb BK161⟩, ⟨Sq.kl3 HB GE101 GE133 GE161⟩⟩
   rw [if_neg c71] at H
   have c71b0 : decide (a2 < 1) = false := decide_eq_false c71
   clear c71
   (first | rw [c71b0] | rw [c71b1] | (simp only [i64_w, i32_w]; rw [c71b0]) | skip)
   have H' := Aside0.mk H
   clear H
   go_wp2
   go_meet
   case rel => exact ⟨_, (decide (a2 > 4)), (by first | rfl | (simp; done) | (simp [*]; done)), H', ⟨by have := HJ9.out; first | omega | exact Nat.le_refl _⟩, ⟨by (with_reducible repeat (first | apply Kd.R_alloc | apply Kd.R_drewN | apply Kd.R_drew)); exact HO_10.out⟩, ⟨by (with_reducible repeat (first | apply Kd.R_alloc | apply Kd.R_drewN | apply Kd.R_drew)); exact HO_102000.out⟩, ⟨by (with_reducible repeat (first | apply Kd.R_alloc | apply Kd.R_drewN | apply Kd.R_drew)); exact HO_102001.out⟩, ⟨by (with_reducible repeat (first | apply Kd.R_alloc | apply Kd.R_drewN | apply Kd.R_drew)); exact HO_102002.out⟩, ⟨by (with_reducible repeat (first | apply Kd.R_alloc | apply Kd.R_drewN | apply Kd.R_drew)); exact HO_102003.out⟩, ⟨by (with_reducible repeat (first | apply Kd.R_alloc | apply Kd.R_drewN | apply Kd.R_drew)); exact HO_102004.out⟩, ⟨by (with_reducible repeat (first | apply Kd.R_alloc | apply Kd.R_drewN | apply Kd.R_drew)); exact HO_134000.out⟩, ⟨by (with_reducible repeat (first | apply Kd.R_alloc | apply Kd.R_drewN | apply Kd.R_drew)); exact HO_134001.out⟩, ⟨by (with_reducible repeat (first | apply Kd.R_alloc | apply Kd.R_drewN | apply Kd.R_drew)); exact HO_134002.out⟩, ⟨by (with_reducible repeat (first | apply Kd.R_alloc | apply Kd.R_drewN | apply Kd.R_drew)); exact HO_134003.out⟩, ⟨by (with_reducible repeat (first | apply Kd.R_alloc | apply Kd.R_drewN | apply Kd.R_drew)); exact HO_134004.out⟩, ⟨Sq.kb BK101⟩, ⟨Sq.kb BK133⟩, ⟨Sq.kb BK161⟩, ⟨Sq.kl3 HB GE101 GE133 GE161⟩⟩
  clear HC69
  try clear c1
  try clear p2
  try clear c6
  try clear c7
  try clear c14
  try clear c16
  try clear c17
  try clear c68
  try clear c70
  try clear c71
  try clear c71b0
  try clear p2
  obtain ⟨kq, x56_68, rfl, HA, HJ68, HO_10, HO_102000, HO_102001, HO_102002, HO_102003, HO_102004, HO_134000, HO_134001, HO_134002, HO_134003, HO_134004, BK101, BK133, BK161, HB⟩ := hcut
  cases kq with
  | zero => exact absurd HA.out (by simp [longcaselaw06_BlockTells.j1])
  | succ kj68 =>
   have H := HA.out
   clear HA
   simp only [longcaselaw06_BlockTells.j1] at H
   by_cases c72 : x56_68 = true
   ·
    subst c72
    rw [if_pos rfl] at H
    by_cases c73 : t102 = true
    rotate_left
    ·
     replace c73 := Bool.eq_false_iff.mpr c73
     subst c73
     rw [if_neg (show ¬ (false = true) by decide)] at H
     exact Bool.noConfusion ((Option.some.inj H).trans HRT.out)
    subst c73
    rw [if_pos rfl] at H
    by_cases c74 : t160 = 1
    rotate_left
    ·
     rw [if_neg c74] at H
     have c74b0 : (t160 == 1) = false := beq_eq_false_iff_ne.mpr c74
     have c74b1 : (t160 != 1) = true := bne_iff_ne.mpr c74
     exact Bool.noConfusion ((Option.some.inj H).trans HRT.out)
    rw [if_pos c74] at H
    have c74b0 : (t160 == 1) = true := beq_iff_eq.mpr c74
    have c74b1 : (t160 != 1) = false := bne_eq_false_iff_eq.mpr c74
    clear c74
    by_cases c75 : (t150.length : Int) = 0
    rotate_left
    ·
     rw [if_neg c75] at H
     have c75b0 : ((t150.length : Int) == 0) = false := beq_eq_false_iff_ne.mpr c75
     have c75b1 : ((t150.length : Int) != 0) = true := bne_iff_ne.mpr c75
     have c75b2 : ¬ (t150 = []) := fun h_ => c75 (by rw [h_]; rfl)
     exact Bool.noConfusion ((Option.some.inj H).trans HRT.out)
    rw [if_pos c75] at H
    have c75b0 : ((t150.length : Int) == 0) = true := beq_iff_eq.mpr c75
    have c75b1 : ((t150.length : Int) != 0) = false := bne_eq_false_iff_eq.mpr c75
    clear c75
    obtain rfl := Option.some.inj H
    obtain ⟨Ao76, co76, eo76⟩ := Kd.R_slice HO_10.out
    subst eo76
    have hnb77 := NB161_101.out
    have hnc77 := NB101_161.out
    have hnb78 := NB161_133.out
    have hnc78 := NB133_161.out
    obtain ⟨hcz79_0, hcz79_1, hcz79_2, hcz79_3, hcz79_4, hcz79_5, hcz79_6⟩ := Sq.c7 BK161
    obtain ⟨hfz79_0, hfz79_1, hfz79_2, hfz79_3, hfz79_4, hfz79_5, hfz79_6⟩ := Sq.z7 BK161
    go_wp2
    go_ret
    exact ⟨by first | rfl | (simp [errW_none, errW_some] <;> rfl) | (simp [*, errW_none, errW_some] <;> rfl), by repeat (first | (with_reducible first | exact HB.out | apply below_alloc | apply pw_below_drewN | apply below_drew1 | refine below_set ?_ GE101.out | refine below_set ?_ GE133.out | refine below_set ?_ GE161.out) | exact HB.out)⟩
   replace c72 := Bool.eq_false_iff.mpr c72
   subst c72
   rw [if_neg (show ¬ (false = true) by decide)] at H
   replace H := Option.bind_eq_some_iff.mp H
   obtain ⟨⟨t194, t197, t200, t203, t206⟩, A810, H⟩ := H
   try dsimp only at H
   have A81 := Aside0.mk A810
   clear A810
   replace H := Option.bind_eq_some_iff.mp H
   obtain ⟨⟨t209, t212, t213, t214, t215, t216, t217, t218⟩, A820, H⟩ := H
   try dsimp only at H
   have A82 := Aside0.mk A820
   clear A820
   by_cases c83 : t102 = true
   rotate_left
   ·
    replace c83 := Bool.eq_false_iff.mpr c83
    subst c83
    rw [if_neg (show ¬ (false = true) by decide)] at H
    exact Bool.noConfusion ((Option.some.inj H).trans HRT.out)
   subst c83
   rw [if_pos rfl] at H
   by_cases c84 : t160 = 0
   rotate_left
   ·
    rw [if_neg c84] at H
    have c84b0 : (t160 == 0) = false := beq_eq_false_iff_ne.mpr c84
    have c84b1 : (t160 != 0) = true := bne_iff_ne.mpr c84
    exact Bool.noConfusion ((Option.some.inj H).trans HRT.out)
   rw [if_pos c84] at H
   have c84b0 : (t160 == 0) = true := beq_iff_eq.mpr c84
   have c84b1 : (t160 != 0) = false := bne_eq_false_iff_eq.mpr c84
   clear c84
   by_cases c85 : (strOfNums t150).toList = (strOfNums t209).toList
   rotate_left
   ·
    rw [if_neg c85] at H
    have c85b0 : ((strOfNums t150).toList == (strOfNums t209).toList) = false := beq_eq_false_iff_ne.mpr c85
    have c85b1 : ((strOfNums t150).toList != (strOfNums t209).toList) = true := bne_iff_ne.mpr c85
    exact Bool.noConfusion ((Option.some.inj H).trans HRT.out)
   rw [if_pos c85] at H
   have c85b0 : ((strOfNums t150).toList == (strOfNums t209).toList) = true := beq_iff_eq.mpr c85
   have c85b1 : ((strOfNums t150).toList != (strOfNums t209).toList) = false := bne_eq_false_iff_eq.mpr c85
   clear c85
   by_cases c86 : (t153 == t212 && (t154 == t213 && (t155 == t214 && (t156 == t215 && (t157 == t216 && (t158 == t217 && (t159 == t218))))))) = true
   rotate_left
   ·
    rw [if_neg c86] at H
    have c86b0 : (t153 == t212 && (t154 == t213 && (t155 == t214 && (t156 == t215 && (t157 == t216 && (t158 == t217 && (t159 == t218))))))) = false := by simpa using c86
    (try (have c86b1 : decide (t153 = t212 && (t154 == t213 && (t155 == t214 && (t156 == t215 && (t157 == t216 && (t158 == t217 && (t159 == t218))))))) = false := by simpa using c86))
    (try (have c86b2 : (t153 == t212 && (t154 == t213 && (t155 == t214 && (t156 == t215 && (t157 == t216 && (t158 == t217 && (t159 == t218))))))) = false := by simpa using c86))
    (try (have c86b3 : ¬ (t153 = t212 && (t154 == t213 && (t155 == t214 && (t156 == t215 && (t157 == t216 && (t158 == t217 && (t159 == t218))))))) := by simpa using c86))
    clear c86
    exact Bool.noConfusion ((Option.some.inj H).trans HRT.out)
   rw [if_pos c86] at H
   have E86 : Aside0 (t153 = t212 ∧ t154 = t213 ∧ t155 = t214 ∧ t156 = t215 ∧ t157 = t216 ∧ t158 = t217 ∧ t159 = t218) := ⟨by simpa using c86⟩
   have c86b0 : (t153 == t212 && (t154 == t213 && (t155 == t214 && (t156 == t215 && (t157 == t216 && (t158 == t217 && (t159 == t218))))))) = true := c86
   (try (have c86b1 : decide (t153 = t212 && (t154 == t213 && (t155 == t214 && (t156 == t215 && (t157 == t216 && (t158 == t217 && (t159 == t218))))))) = true := by simpa using c86))
   (try (have c86b2 : (t153 == t212 && (t154 == t213 && (t155 == t214 && (t156 == t215 && (t157 == t216 && (t158 == t217 && (t159 == t218))))))) = true := by simpa using c86))
   clear c86
   replace H := Option.bind_eq_some_iff.mp H
   obtain ⟨t220, A870, H⟩ := H
   replace H : (if t220 = true then ((header_Body.f t153 t154 t155 t156 t157 t158 t159 a1).bind fun t221 => (some (t221 == (t150.length : Int)))) else (some false)) = some r := H
   have A87 := Aside0.mk A870
   replace A87 : Aside0 (header_Right.f t212 t213 t214 t215 t216 t217 t218 = some t220) := ⟨by have h_ := A87.out; obtain ⟨g0, g1, g2, g3, g4, g5, g6⟩ := E86.out; rw [g0, g1, g2, g3, g4, g5, g6] at h_; exact h_⟩
   clear A870
   by_cases c88 : t220 = true
   rotate_left
   ·
    replace c88 := Bool.eq_false_iff.mpr c88
    subst c88
    rw [if_neg (show ¬ (false = true) by decide)] at H
    exact Bool.noConfusion ((Option.some.inj H).trans HRT.out)
   subst c88
   rw [if_pos rfl] at H
   replace H := Option.bind_eq_some_iff.mp H
   obtain ⟨t221, A890, H⟩ := H
   replace H : (some (t221 == (t150.length : Int))) = some r := H
   have A89 := Aside0.mk A890
   replace A89 : Aside0 (header_Body.f t212 t213 t214 t215 t216 t217 t218 a1 = some t221) := ⟨by have h_ := A89.out; obtain ⟨g0, g1, g2, g3, g4, g5, g6⟩ := E86.out; rw [g0, g1, g2, g3, g4, g5, g6] at h_; exact h_⟩
   clear A890
   obtain rfl := Option.some.inj H
   have hnb90 := NB101_133.out
   have hnc90 := NB133_101.out
   have hnb91 := NB101_161.out
   have hnc91 := NB161_101.out
   obtain ⟨hcz92_0, hcz92_1, hcz92_2, hcz92_3, hcz92_4⟩ := Sq.c5 BK101
   obtain ⟨hfz92_0, hfz92_1, hfz92_2, hfz92_3, hfz92_4⟩ := Sq.z5 BK101
   go_wp2_with (first | ((with_reducible refine gate_callee (f := 14) rfl ?_); refine goesL_ (some 74) rfl rfl Try.func14 (by kernel_rfl) rfl #[.agg #[.slice Ao15 t103.length co15, .slice Ao17 t106.length co17, .slice Ao18 t109.length co18, .slice Ao19 t112.length co19, .slice Ao20 t115.length co20]] rfl (by (try simp only [List.map_toArray, List.map_cons, List.map_nil]); first | done | rfl | (simp only [List.length_drop, List.length_take]; rfl)) ?_; (with_reducible refine (longcaselaw06_ref.calls _ _ t103 _ _ t106 _ _ t109 _ _ t112 _ _ t115 t194 t197 t200 t203 t206 _ A81.out).mono ?_); rintro e w93 ⟨v195, v198, v201, v204, v207, rfl, ho0, ho1, ho2, ho3, ho4, hb⟩; refine ⟨_, rfl, ?_⟩; replace HO_10 := krb HO_10 hb; replace HO_134000 := krb HO_134000 hb; replace HO_134001 := krb HO_134001 hb; replace HO_134002 := krb HO_134002 hb; replace HO_134003 := krb HO_134003 hb; replace HO_134004 := krb HO_134004 hb; have HO196 := Aside0.mk (ho0 _ _ (kr HO_102000)); replace HO_102000 := krb HO_102000 hb; have HO199 := Aside0.mk (ho1 _ _ (kr HO_102001)); replace HO_102001 := krb HO_102001 hb; have HO202 := Aside0.mk (ho2 _ _ (kr HO_102002)); replace HO_102002 := krb HO_102002 hb; have HO205 := Aside0.mk (ho3 _ _ (kr HO_102003)); replace HO_102003 := krb HO_102003 hb; have HO208 := Aside0.mk (ho4 _ _ (kr HO_102004)); replace HO_102004 := krb HO_102004 hb; replace BK101 := kbb BK101 hb; replace BK133 := kbb BK133 hb; replace BK161 := kbb BK161 hb; replace HB := Aside0.mk (below_step (Sq.kl3 HB GE101 GE133 GE161) hb); (try clear hb); (try clear ho0); (try clear ho1); (try clear ho2); (try clear ho3); (try clear ho4); obtain ⟨Ao94, co94, eo94⟩ := Kd.R_slice HO196.out; subst eo94; obtain ⟨Ao95, co95, eo95⟩ := Kd.R_slice HO199.out; subst eo95; obtain ⟨Ao96, co96, eo96⟩ := Kd.R_slice HO202.out; subst eo96; obtain ⟨Ao97, co97, eo97⟩ := Kd.R_slice HO205.out; subst eo97; obtain ⟨Ao98, co98, eo98⟩ := Kd.R_slice HO208.out; subst eo98) | ((with_reducible refine gate_callee (f := 18) rfl ?_); refine goesL_ (some 77) rfl rfl Try.func18 (by kernel_rfl) rfl #[.agg #[.slice Ao94 t194.length co94, .slice Ao95 t197.length co95, .slice Ao96 t200.length co96, .slice Ao97 t203.length co97, .slice Ao98 t206.length co98], .int .i64 a1, .int .i64 a2] rfl (by (try simp only [List.map_toArray, List.map_cons, List.map_nil]); first | done | rfl | (simp only [List.length_drop, List.length_take]; rfl)) ?_; (with_reducible refine (longcaseref06_Encode.calls _ _ t194 _ _ t197 _ _ t200 _ _ t203 _ _ t206 a1 a2 t209 t212 t213 t214 t215 t216 t217 t218 _ ?side1 ?side2 ?side3 ?side4 ?side5 ?side6 ?side7 ?side8 ?side9 ?side10 A82.out).mono ?_); (case side1 => exact Sq.qc HO196); (case side2 => exact Sq.ql HO196); (case side3 => exact Sq.qc HO199); (case side4 => exact Sq.ql HO199); (case side5 => exact Sq.qc HO202); (case side6 => exact Sq.ql HO202); (case side7 => exact Sq.qc HO205); (case side8 => exact Sq.ql HO205); (case side9 => exact Sq.qc HO208); (case side10 => exact Sq.ql HO208); rintro e w99 ⟨v210, rfl, ho0, hb⟩; refine ⟨_, rfl, ?_⟩; replace HO_102000 := krb HO_102000 hb; replace HO_102001 := krb HO_102001 hb; replace HO_102002 := krb HO_102002 hb; replace HO_102003 := krb HO_102003 hb; replace HO_102004 := krb HO_102004 hb; replace HO_134000 := krb HO_134000 hb; replace HO_134001 := krb HO_134001 hb; replace HO_134002 := krb HO_134002 hb; replace HO_134003 := krb HO_134003 hb; replace HO_134004 := krb HO_134004 hb; replace HO196 := krb HO196 hb; replace HO199 := krb HO199 hb; replace HO202 := krb HO202 hb; replace HO205 := krb HO205 hb; replace HO208 := krb HO208 hb; have HO211 := Aside0.mk (Kd.R_lower (Kd.R_new' ho0 (Kd.R_lt (kr HO_10))) (below_size (Sq.kl3 HB GE101 GE133 GE161))); replace HO_10 := Aside0.mk (Kd.R_elder' (kr HO_10) (Kd.R_base ho0) hb); replace BK101 := kbb BK101 hb; replace BK133 := kbb BK133 hb; replace BK161 := kbb BK161 hb; replace HB := Aside0.mk (below_step (Sq.kl3 HB GE101 GE133 GE161) hb); (try clear hb); (try clear ho0)) | ((with_reducible refine gate_dst (N := 14) rfl ?_); (try (refine gate_guard (by rfl) ?_; dsimp only)); refine box_event ?hg (N := 14) ?hd (cs := #[.int .i64 0, .int .i64 0, .int .i64 0, .int .i64 0, .int .i64 0, .int .i64 0, .int .i64 0]) (t := 41) ?hr ?_; (case hd => rfl); (case hg => rfl); (case hr => first | (go_simp; done) | (go_simp; rfl)); intro gb219 hg w100 hbox hb; replace HO_10 := krb HO_10 hb; replace HO_102000 := krb HO_102000 hb; replace HO_102001 := krb HO_102001 hb; replace HO_102002 := krb HO_102002 hb; replace HO_102003 := krb HO_102003 hb; replace HO_102004 := krb HO_102004 hb; replace HO_134000 := krb HO_134000 hb; replace HO_134001 := krb HO_134001 hb; replace HO_134002 := krb HO_134002 hb; replace HO_134003 := krb HO_134003 hb; replace HO_134004 := krb HO_134004 hb; replace HO196 := krb HO196 hb; replace HO199 := krb HO199 hb; replace HO202 := krb HO202 hb; replace HO205 := krb HO205 hb; replace HO208 := krb HO208 hb; replace HO211 := krb HO211 hb; have BK219 := Aside0.mk (hbox); have GW219 := Aside0.mk ((by rw [hg]; exact (below_size (Sq.kl3 HB GE101 GE133 GE161)) : w.heap.size ≤ gb219)); have GE219 := Aside0.mk ((by rw [hg]; exact (below_size (Sq.kl3 HB GE101 GE133 GE161)) : w.heap.size ≤ gb219)); replace HB := Aside0.mk (below_step (Sq.kl3 HB GE101 GE133 GE161) hb); have NB101_219 := Aside0.mk ((by rw [hg]; exact Nat.ne_of_lt (blk_lt (kb BK101)) : gb101 ≠ gb219)); have NB219_101 := Aside0.mk ((by rw [hg]; exact Nat.ne_of_gt (blk_lt (kb BK101)) : gb219 ≠ gb101)); replace BK101 := kbb BK101 hb; have NB133_219 := Aside0.mk ((by rw [hg]; exact Nat.ne_of_lt (blk_lt (kb BK133)) : gb133 ≠ gb219)); have NB219_133 := Aside0.mk ((by rw [hg]; exact Nat.ne_of_gt (blk_lt (kb BK133)) : gb219 ≠ gb133)); replace BK133 := kbb BK133 hb; have NB161_219 := Aside0.mk ((by rw [hg]; exact Nat.ne_of_lt (blk_lt (kb BK161)) : gb161 ≠ gb219)); have NB219_161 := Aside0.mk ((by rw [hg]; exact Nat.ne_of_gt (blk_lt (kb BK161)) : gb219 ≠ gb161)); replace BK161 := kbb BK161 hb; clear hb hbox hg; have hnb101 := NB219_101.out; have hnc101 := NB101_219.out; have hnb102 := NB219_133.out; have hnc102 := NB133_219.out; have hnb103 := NB219_161.out; have hnc103 := NB161_219.out; obtain ⟨hcz104_0, hcz104_1, hcz104_2, hcz104_3, hcz104_4, hcz104_5, hcz104_6⟩ := Sq.c7 BK219; obtain ⟨hfz104_0, hfz104_1, hfz104_2, hfz104_3, hfz104_4, hfz104_5, hfz104_6⟩ := Sq.z7 BK219; have hR105 : Kd.R (Kd.int .u8) 5 (((((((w100.setCell ⟨gb219, 0, none⟩ (.int .i64 t212)).setCell ⟨gb219, 1, none⟩ (.int .i64 t213)).setCell ⟨gb219, 2, none⟩ (.int .i64 t214)).setCell ⟨gb219, 3, none⟩ (.int .i64 t215)).setCell ⟨gb219, 4, none⟩ (.int .i64 t216)).setCell ⟨gb219, 5, none⟩ (.int .i64 t217)).setCell ⟨gb219, 6, none⟩ (.int .i64 t218)) w.heap.size _ _ _ := rp7 HO_10 BK219; have hcv105 := own_string (P := Try.prog) Try.underlying33 Try.underlying5 Try.underlying9 (Kd.own_of_R hR105); have hR106 : Kd.R (Kd.int .u8) 5 (((((((w100.setCell ⟨gb219, 0, none⟩ (.int .i64 t212)).setCell ⟨gb219, 1, none⟩ (.int .i64 t213)).setCell ⟨gb219, 2, none⟩ (.int .i64 t214)).setCell ⟨gb219, 3, none⟩ (.int .i64 t215)).setCell ⟨gb219, 4, none⟩ (.int .i64 t216)).setCell ⟨gb219, 5, none⟩ (.int .i64 t217)).setCell ⟨gb219, 6, none⟩ (.int .i64 t218)) w.heap.size _ _ _ := rp7 HO211 BK219; have hcv106 := own_string (P := Try.prog) Try.underlying33 Try.underlying5 Try.underlying9 (Kd.own_of_R hR106); have hnb107 := NB161_133.out; have hnc107 := NB133_161.out; obtain ⟨hcz108_0, hcz108_1, hcz108_2, hcz108_3, hcz108_4, hcz108_5, hcz108_6⟩ := Sq.c7 BK161; obtain ⟨hfz108_0, hfz108_1, hfz108_2, hfz108_3, hfz108_4, hfz108_5, hfz108_6⟩ := Sq.z7 BK161) | (go_at_call 19; (with_reducible refine (header_Right.calls t212 t213 t214 t215 t216 t217 t218 true _ A87.out).mono ?_); rintro e w109 ⟨rfl, hb⟩; replace HO_10 := Aside0.mk (Kd.R_below (by (with_reducible repeat (first | apply Kd.R_alloc | apply Kd.R_drewN | apply Kd.R_drew)); exact (rp7 HO_10 BK219)) hb); replace HO_102000 := Aside0.mk (Kd.R_below (by (with_reducible repeat (first | apply Kd.R_alloc | apply Kd.R_drewN | apply Kd.R_drew)); exact (rp7 HO_102000 BK219)) hb); replace HO_102001 := Aside0.mk (Kd.R_below (by (with_reducible repeat (first | apply Kd.R_alloc | apply Kd.R_drewN | apply Kd.R_drew)); exact (rp7 HO_102001 BK219)) hb); replace HO_102002 := Aside0.mk (Kd.R_below (by (with_reducible repeat (first | apply Kd.R_alloc | apply Kd.R_drewN | apply Kd.R_drew)); exact (rp7 HO_102002 BK219)) hb); replace HO_102003 := Aside0.mk (Kd.R_below (by (with_reducible repeat (first | apply Kd.R_alloc | apply Kd.R_drewN | apply Kd.R_drew)); exact (rp7 HO_102003 BK219)) hb); replace HO_102004 := Aside0.mk (Kd.R_below (by (with_reducible repeat (first | apply Kd.R_alloc | apply Kd.R_drewN | apply Kd.R_drew)); exact (rp7 HO_102004 BK219)) hb); replace HO_134000 := Aside0.mk (Kd.R_below (by (with_reducible repeat (first | apply Kd.R_alloc | apply Kd.R_drewN | apply Kd.R_drew)); exact (rp7 HO_134000 BK219)) hb); replace HO_134001 := Aside0.mk (Kd.R_below (by (with_reducible repeat (first | apply Kd.R_alloc | apply Kd.R_drewN | apply Kd.R_drew)); exact (rp7 HO_134001 BK219)) hb); replace HO_134002 := Aside0.mk (Kd.R_below (by (with_reducible repeat (first | apply Kd.R_alloc | apply Kd.R_drewN | apply Kd.R_drew)); exact (rp7 HO_134002 BK219)) hb); replace HO_134003 := Aside0.mk (Kd.R_below (by (with_reducible repeat (first | apply Kd.R_alloc | apply Kd.R_drewN | apply Kd.R_drew)); exact (rp7 HO_134003 BK219)) hb); replace HO_134004 := Aside0.mk (Kd.R_below (by (with_reducible repeat (first | apply Kd.R_alloc | apply Kd.R_drewN | apply Kd.R_drew)); exact (rp7 HO_134004 BK219)) hb); replace HO196 := Aside0.mk (Kd.R_below (by (with_reducible repeat (first | apply Kd.R_alloc | apply Kd.R_drewN | apply Kd.R_drew)); exact (rp7 HO196 BK219)) hb); replace HO199 := Aside0.mk (Kd.R_below (by (with_reducible repeat (first | apply Kd.R_alloc | apply Kd.R_drewN | apply Kd.R_drew)); exact (rp7 HO199 BK219)) hb); replace HO202 := Aside0.mk (Kd.R_below (by (with_reducible repeat (first | apply Kd.R_alloc | apply Kd.R_drewN | apply Kd.R_drew)); exact (rp7 HO202 BK219)) hb); replace HO205 := Aside0.mk (Kd.R_below (by (with_reducible repeat (first | apply Kd.R_alloc | apply Kd.R_drewN | apply Kd.R_drew)); exact (rp7 HO205 BK219)) hb); replace HO208 := Aside0.mk (Kd.R_below (by (with_reducible repeat (first | apply Kd.R_alloc | apply Kd.R_drewN | apply Kd.R_drew)); exact (rp7 HO208 BK219)) hb); replace HO211 := Aside0.mk (Kd.R_below (by (with_reducible repeat (first | apply Kd.R_alloc | apply Kd.R_drewN | apply Kd.R_drew)); exact (rp7 HO211 BK219)) hb); replace BK101 := Aside0.mk (blk_below (g := gb101) (o := .cells #[.slice Ao15 t103.length co15, .slice Ao17 t106.length co17, .slice Ao18 t109.length co18, .slice Ao19 t112.length co19, .slice Ao20 t115.length co20] 27 (0, 0)) (by (with_reducible repeat (first | refine blk_drewN ?_ _ | refine blk_drew ?_ | refine blk_alloc ?_ _)); refine blk_far ?_ NB101_219.out _; (with_reducible repeat (first | refine blk_drewN ?_ _ | refine blk_drew ?_ | refine blk_alloc ?_ _)); refine blk_far ?_ NB101_219.out _; (with_reducible repeat (first | refine blk_drewN ?_ _ | refine blk_drew ?_ | refine blk_alloc ?_ _)); refine blk_far ?_ NB101_219.out _; (with_reducible repeat (first | refine blk_drewN ?_ _ | refine blk_drew ?_ | refine blk_alloc ?_ _)); refine blk_far ?_ NB101_219.out _; (with_reducible repeat (first | refine blk_drewN ?_ _ | refine blk_drew ?_ | refine blk_alloc ?_ _)); refine blk_far ?_ NB101_219.out _; (with_reducible repeat (first | refine blk_drewN ?_ _ | refine blk_drew ?_ | refine blk_alloc ?_ _)); refine blk_far ?_ NB101_219.out _; (with_reducible repeat (first | refine blk_drewN ?_ _ | refine blk_drew ?_ | refine blk_alloc ?_ _)); refine blk_far ?_ NB101_219.out _; exact Sq.kb BK101) hb); replace BK133 := Aside0.mk (blk_below (g := gb133) (o := .cells #[.slice Ao23 t118.length co23, .slice Ao26 t121.length co26, .slice Ao27 t124.length co27, .slice Ao28 t127.length co28, .slice Ao29 t130.length co29] 27 (0, 0)) (by (with_reducible repeat (first | refine blk_drewN ?_ _ | refine blk_drew ?_ | refine blk_alloc ?_ _)); refine blk_far ?_ NB133_219.out _; (with_reducible repeat (first | refine blk_drewN ?_ _ | refine blk_drew ?_ | refine blk_alloc ?_ _)); refine blk_far ?_ NB133_219.out _; (with_reducible repeat (first | refine blk_drewN ?_ _ | refine blk_drew ?_ | refine blk_alloc ?_ _)); refine blk_far ?_ NB133_219.out _; (with_reducible repeat (first | refine blk_drewN ?_ _ | refine blk_drew ?_ | refine blk_alloc ?_ _)); refine blk_far ?_ NB133_219.out _; (with_reducible repeat (first | refine blk_drewN ?_ _ | refine blk_drew ?_ | refine blk_alloc ?_ _)); refine blk_far ?_ NB133_219.out _; (with_reducible repeat (first | refine blk_drewN ?_ _ | refine blk_drew ?_ | refine blk_alloc ?_ _)); refine blk_far ?_ NB133_219.out _; (with_reducible repeat (first | refine blk_drewN ?_ _ | refine blk_drew ?_ | refine blk_alloc ?_ _)); refine blk_far ?_ NB133_219.out _; exact Sq.kb BK133) hb); replace BK161 := Aside0.mk (blk_below (g := gb161) (o := .cells #[.int .i64 t153, .int .i64 t154, .int .i64 t155, .int .i64 t156, .int .i64 t157, .int .i64 t158, .int .i64 t159] 35 (0, 0)) (by (with_reducible repeat (first | refine blk_drewN ?_ _ | refine blk_drew ?_ | refine blk_alloc ?_ _)); refine blk_far ?_ NB161_219.out _; (with_reducible repeat (first | refine blk_drewN ?_ _ | refine blk_drew ?_ | refine blk_alloc ?_ _)); refine blk_far ?_ NB161_219.out _; (with_reducible repeat (first | refine blk_drewN ?_ _ | refine blk_drew ?_ | refine blk_alloc ?_ _)); refine blk_far ?_ NB161_219.out _; (with_reducible repeat (first | refine blk_drewN ?_ _ | refine blk_drew ?_ | refine blk_alloc ?_ _)); refine blk_far ?_ NB161_219.out _; (with_reducible repeat (first | refine blk_drewN ?_ _ | refine blk_drew ?_ | refine blk_alloc ?_ _)); refine blk_far ?_ NB161_219.out _; (with_reducible repeat (first | refine blk_drewN ?_ _ | refine blk_drew ?_ | refine blk_alloc ?_ _)); refine blk_far ?_ NB161_219.out _; (with_reducible repeat (first | refine blk_drewN ?_ _ | refine blk_drew ?_ | refine blk_alloc ?_ _)); refine blk_far ?_ NB161_219.out _; exact Sq.kb BK161) hb); replace BK219 := Aside0.mk (blk_below (g := gb219) (o := .cells #[.int .i64 t212, .int .i64 t213, .int .i64 t214, .int .i64 t215, .int .i64 t216, .int .i64 t217, .int .i64 t218] 41 (0, 0)) (by (with_reducible repeat (first | refine blk_drewN ?_ _ | refine blk_drew ?_ | refine blk_alloc ?_ _)); refine blk_put (cs := #[.int .i64 t212, .int .i64 t213, .int .i64 t214, .int .i64 t215, .int .i64 t216, .int .i64 t217, .int .i64 0]) ?_ 6 _ rfl; (with_reducible repeat (first | refine blk_drewN ?_ _ | refine blk_drew ?_ | refine blk_alloc ?_ _)); refine blk_put (cs := #[.int .i64 t212, .int .i64 t213, .int .i64 t214, .int .i64 t215, .int .i64 t216, .int .i64 0, .int .i64 0]) ?_ 5 _ rfl; (with_reducible repeat (first | refine blk_drewN ?_ _ | refine blk_drew ?_ | refine blk_alloc ?_ _)); refine blk_put (cs := #[.int .i64 t212, .int .i64 t213, .int .i64 t214, .int .i64 t215, .int .i64 0, .int .i64 0, .int .i64 0]) ?_ 4 _ rfl; (with_reducible repeat (first | refine blk_drewN ?_ _ | refine blk_drew ?_ | refine blk_alloc ?_ _)); refine blk_put (cs := #[.int .i64 t212, .int .i64 t213, .int .i64 t214, .int .i64 0, .int .i64 0, .int .i64 0, .int .i64 0]) ?_ 3 _ rfl; (with_reducible repeat (first | refine blk_drewN ?_ _ | refine blk_drew ?_ | refine blk_alloc ?_ _)); refine blk_put (cs := #[.int .i64 t212, .int .i64 t213, .int .i64 0, .int .i64 0, .int .i64 0, .int .i64 0, .int .i64 0]) ?_ 2 _ rfl; (with_reducible repeat (first | refine blk_drewN ?_ _ | refine blk_drew ?_ | refine blk_alloc ?_ _)); refine blk_put (cs := #[.int .i64 t212, .int .i64 0, .int .i64 0, .int .i64 0, .int .i64 0, .int .i64 0, .int .i64 0]) ?_ 1 _ rfl; (with_reducible repeat (first | refine blk_drewN ?_ _ | refine blk_drew ?_ | refine blk_alloc ?_ _)); refine blk_put (cs := #[.int .i64 0, .int .i64 0, .int .i64 0, .int .i64 0, .int .i64 0, .int .i64 0, .int .i64 0]) ?_ 0 _ rfl; exact Sq.kb BK219) hb); replace HB := Aside0.mk (below_step (Sq.kl4 HB GE101 GE133 GE161 GE219) hb); (try clear hb); obtain ⟨hcz110_0, hcz110_1, hcz110_2, hcz110_3, hcz110_4, hcz110_5, hcz110_6⟩ := Sq.c7 BK161; obtain ⟨hfz110_0, hfz110_1, hfz110_2, hfz110_3, hfz110_4, hfz110_5, hfz110_6⟩ := Sq.z7 BK161) | (go_at_call 20; (with_reducible refine (header_Body.calls t212 t213 t214 t215 t216 t217 t218 a1 t221 _ A89.out).mono ?_); rintro e w111 ⟨rfl, hb⟩; replace HO_10 := krb HO_10 hb; replace HO_102000 := krb HO_102000 hb; replace HO_102001 := krb HO_102001 hb; replace HO_102002 := krb HO_102002 hb; replace HO_102003 := krb HO_102003 hb; replace HO_102004 := krb HO_102004 hb; replace HO_134000 := krb HO_134000 hb; replace HO_134001 := krb HO_134001 hb; replace HO_134002 := krb HO_134002 hb; replace HO_134003 := krb HO_134003 hb; replace HO_134004 := krb HO_134004 hb; replace HO196 := krb HO196 hb; replace HO199 := krb HO199 hb; replace HO202 := krb HO202 hb; replace HO205 := krb HO205 hb; replace HO208 := krb HO208 hb; replace HO211 := krb HO211 hb; replace BK101 := kbb BK101 hb; replace BK133 := kbb BK133 hb; replace BK161 := kbb BK161 hb; replace BK219 := kbb BK219 hb; replace HB := Aside0.mk (below_step (Sq.kl4 HB GE101 GE133 GE161 GE219) hb); (try clear hb); obtain ⟨Ao112, co112, eo112⟩ := Kd.R_slice HO_10.out; subst eo112))
   go_ret
   exact ⟨by first | rfl | (simp [errW_none, errW_some] <;> rfl) | (simp [*, errW_none, errW_some] <;> rfl), by repeat (first | (with_reducible first | exact HB.out | apply below_alloc | apply pw_below_drewN | apply below_drew1 | refine below_set ?_ GE101.out | refine below_set ?_ GE133.out | refine below_set ?_ GE161.out | refine below_set ?_ GE219.out) | exact HB.out)⟩
   all_goals first | exact absurd E86.out.1 (by assumption) | exact absurd E86.out.2.1 (by assumption) | exact absurd E86.out.2.2.1 (by assumption) | exact absurd E86.out.2.2.2.1 (by assumption) | exact absurd E86.out.2.2.2.2.1 (by assumption) | exact absurd E86.out.2.2.2.2.2.1 (by assumption) | exact absurd E86.out.2.2.2.2.2.2 (by assumption)
end Go.Proofs.Ythobnoknbdljgaa.PL6
end
section
namespace Go.Proofs.Ythobnoknbdljgaa
open Go.RowKit Hand PB0 Go.Proofs.YthobnoknbdljgaaW.PrintWords Oct
theorem flat_length {α : Type} (f : α → List Int) (c : Nat) (l : List α) (h : ∀ x ∈ l, (f x).length = c) : (l.flatMap f).length = c * l.length := by
 rw [List.length_flatMap]
 induction l with
 | nil => rfl
 | cons x l ih => rw [List.map_cons, List.sum_cons, h x (List.mem_cons_self ..), ih (fun y hy => h y (List.mem_cons_of_mem _ hy)), List.length_cons, Nat.mul_succ, Nat.add_comm]
theorem encL_len (m : Nat) (K : List S56) (J : List S54) (L : List S67) (S U : List Bool) : (encL m K J L S U).length = bodyN m U.length S.length L.length J.length K.length (nmSt (names K)).1.length := by
 have hz : (K.zip (nmSt (names K)).2.2).length = K.length := by rw [List.length_zip, (nmSt_len _).2]; simp [names]
 unfold encL bodyN
 simp only [List.length_append]
 rw [flat_length (jA m) m J (fun x _ => jA_len m x), flat_length jB 1 J (fun x _ => rfl), flat_length kA 6 _ (fun x _ => kA_len x), flat_length (lA m) (m + 4) L (fun x _ => lA_len m x), tr_len, tr_len, bytesOf_length, sz_l, hz]
 have h1 : (m + 1) * J.length = m * J.length + J.length := by rw [Nat.add_mul, Nat.one_mul]
 omega
end Go.Proofs.Ythobnoknbdljgaa
end
section
namespace Go.Proofs.Ythobnoknbdljgaa.Hand
open Go.ChangeShapes Go.WideShapes Go.Deep Go.Joins Go.RowKit Go.Proofs.YthobnoknbdljgaaW.PrintWords PB0
section
variable {H : Type} {enc : TypeId × Value → H} {P : Program} {w : World} {base : Nat} {spare : Nat → Bool} {held : Bool}
theorem open_C {α : Type} [Inhabited α] (d : Kd α) (good : α → Prop) {t e : TypeId} {fuel : Nat} {cs : List Value} {x : DataW H × List MemPlace} (ht : P.underlying t = some (.slice e)) (hc : P.cellsOf e = d.sz)
  (hel : ∀ (n : Nat) (cs' : List Value) (y : DataW H × List MemPlace), DataW.trod enc P w base spare held n e cs' = some y → cs'.length = d.sz → ∃ q : α, d.K w q cs' ∧ good q)
  (h : DataW.trod enc P w base spare held fuel t cs = some x) :
  ∃ (A : Option Addr) (c : Nat) (xs : List α), cs = [.slice A xs.length c] ∧ d.C w A xs.length xs ∧ xs.length ≤ c ∧ ∀ q ∈ xs, good q := by
 rcases open_slice ht h with ⟨rfl, _⟩ | ⟨a, len, cap, m, n, D, Pl, rfl, hb, hl, hm, hmm, hx, hi⟩
 ·
  exact ⟨none, 0, [], rfl, ⟨rfl, by simp, fun h => by simp at h⟩, Nat.le_refl _, fun q hq => by cases hq⟩
 ·
  have hlm : len ≤ m := by rw [hmm]; split <;> omega
  have each : ∀ i, i < len → ∃ q : α, good q ∧ ∃ c : List Value, c.length = d.sz ∧ d.K w q c ∧ ∀ k u, c[k]? = some u → w.cell? (a.add (i * d.sz + k)) = some u := by
   intro i hlt
   obtain ⟨cs', h1, h2⟩ := hi i (by omega)
   obtain ⟨_, hlen, hcell⟩ := World.cells?_some h1
   rw [hc] at hlen hcell
   obtain ⟨q, hq, hg⟩ := hel _ _ _ h2 hlen
   refine ⟨q, hg, cs', hlen, hq, fun k u hu => ?_⟩
   have hk : k < d.sz := by have := (List.getElem?_eq_some_iff.1 hu).1; omega
   rw [← Go.Deep.add_add, hcell k hk, hu]
  obtain ⟨q, hq⟩ := choose_lt each
  have hl2 : ((List.range len).map q).length = len := by simp
  refine ⟨some a, cap, (List.range len).map q, by rw [hl2], ?_, by rw [hl2]; exact hl, ?_⟩
  ·
   rw [hl2]
   refine ⟨hl2, by have : maxLen = 2 ^ 63 - 1 := rfl; omega, fun _ => ⟨a, rfl, fun j p hp => ?_⟩⟩
   rw [List.getElem?_map] at hp
   obtain ⟨i, hi1, hi2⟩ := Option.map_eq_some_iff.1 hp
   obtain ⟨hi3, hi4⟩ := List.getElem?_eq_some_iff.1 hi1
   rw [List.getElem_range] at hi4
   subst hi4
   rw [List.length_range] at hi3
   subst hi2
   obtain ⟨_, c, h1, h2, h3⟩ := hq j hi3
   exact ⟨c, h1, h2, h3⟩
  ·
   intro p hp
   obtain ⟨i, hi1, rfl⟩ := List.mem_map.1 hp
   exact (hq i (List.mem_range.1 hi1)).1
end
instance : Inhabited S56 := ⟨⟨0, false, ⟨#[]⟩⟩⟩
instance : Inhabited S54 := ⟨⟨0, 0⟩⟩
instance : Inhabited S67 := ⟨⟨0, 0⟩⟩
def wfi (n : Int) : Prop := -9223372036854775808 ≤ n ∧ n ≤ 9223372036854775807
theorem wfi_of {n : Int} (h : (Lit.int .i64 n).wf = true) : wfi n := by
 simp only [Lit.wf, Bool.and_eq_true, decide_eq_true_eq] at h
 have h1 : IntKind.i64.min = -9223372036854775808 := by decide
 have h2 : IntKind.i64.max = 9223372036854775807 := by decide
 rw [h1, h2] at h
 unfold wfi
 omega
def good56 (x : S56) : Prop := wfi x.f0
def good54 (x : S54) : Prop := wfi x.f0 ∧ wfi x.f1
def good67 (x : S67) : Prop := wfi x.f0 ∧ wfi x.f1
section
variable {H : Type} {enc : TypeId × Value → H} {w : World} {base : Nat} {spare : Nat → Bool} {held : Bool} {fuel : Nat} {cs : List Value} {x : DataW H × List MemPlace}
set_option maxRecDepth 100000 in
theorem open56 (h : DataW.trod enc Try.prog w base spare held fuel 22 cs = some x) : ∃ (A : Option Addr) (c : Nat) (xs : List S56), cs = [.slice A xs.length c] ∧ Kd.C k56 w A xs.length xs ∧ xs.length ≤ c ∧ ∀ q ∈ xs, good56 q := by
 refine open_C k56 good56 Try.underlying22 (by kernel_rfl) ?_ h
 intro n cs' y h hl
 obtain ⟨y0, y1, y2, m, _, _, h0, h1, h2⟩ := trod_struct3 Try.underlying56 h
 match cs', (show cs'.length = 3 from hl) with
 | [a, b, c], _ =>
  obtain ⟨z0, e0, _, hw⟩ := DataW.trod_int (by kernel_rfl) h0
  obtain ⟨z1, e1, _⟩ := DataW.trod_bool (by kernel_rfl) h1
  obtain ⟨z2, e2, _, _⟩ := DataW.trod_string (by kernel_rfl) h2
  have e0' : [a] = [.int .i64 z0] := by rw [← e0]; kernel_rfl
  have e1' : [b] = [.bool z1] := by rw [← e1]; kernel_rfl
  have e2' : [c] = [.string z2] := by rw [← e2]; kernel_rfl
  injection e0' with e0'
  injection e1' with e1'
  injection e2' with e2'
  subst e0' e1' e2'
  exact ⟨⟨z0, z1, z2⟩, k56_mk _ _, wfi_of hw⟩
set_option maxRecDepth 100000 in
theorem open54 (h : DataW.trod enc Try.prog w base spare held fuel 23 cs = some x) : ∃ (A : Option Addr) (c : Nat) (xs : List S54), cs = [.slice A xs.length c] ∧ Kd.C k54 w A xs.length xs ∧ xs.length ≤ c ∧ ∀ q ∈ xs, good54 q := by
 refine open_C k54 good54 Try.underlying23 (by kernel_rfl) ?_ h
 intro n cs' y h hl
 obtain ⟨y0, y1, m, _, _, h0, h1⟩ := trod_struct2 Try.underlying54 h
 match cs', (show cs'.length = 2 from hl) with
 | [a, b], _ =>
  obtain ⟨z0, e0, _, hw⟩ := DataW.trod_int (by kernel_rfl) h0
  obtain ⟨z1, e1, _, hw1⟩ := DataW.trod_int (by kernel_rfl) h1
  have e0' : [a] = [.int .i64 z0] := by rw [← e0]; kernel_rfl
  have e1' : [b] = [.int .i64 z1] := by rw [← e1]; kernel_rfl
  injection e0' with e0'
  injection e1' with e1'
  subst e0' e1'
  exact ⟨⟨z0, z1⟩, k54_mk _ _, wfi_of hw, wfi_of hw1⟩
set_option maxRecDepth 100000 in
theorem open67 (h : DataW.trod enc Try.prog w base spare held fuel 24 cs = some x) : ∃ (A : Option Addr) (c : Nat) (xs : List S67), cs = [.slice A xs.length c] ∧ Kd.C k67 w A xs.length xs ∧ xs.length ≤ c ∧ ∀ q ∈ xs, good67 q := by
 refine open_C k67 good67 Try.underlying24 (by kernel_rfl) ?_ h
 intro n cs' y h hl
 obtain ⟨y0, y1, m, _, _, h0, h1⟩ := trod_struct2 Try.underlying67 h
 match cs', (show cs'.length = 2 from hl) with
 | [a, b], _ =>
  obtain ⟨z0, e0, _, hw⟩ := DataW.trod_int (by kernel_rfl) h0
  obtain ⟨z1, e1, _, hw1⟩ := DataW.trod_int (by kernel_rfl) h1
  have e0' : [a] = [.int .i64 z0] := by rw [← e0]; kernel_rfl
  have e1' : [b] = [.int .i64 z1] := by rw [← e1]; kernel_rfl
  injection e0' with e0'
  injection e1' with e1'
  subst e0' e1'
  exact ⟨⟨z0, z1⟩, k67_mk _ _, wfi_of hw, wfi_of hw1⟩
theorem openB (h : DataW.trod enc Try.prog w base spare held fuel 25 cs = some x) : ∃ (A : Option Addr) (c : Nat) (xs : List Bool), cs = [.slice A xs.length c] ∧ Kd.C Kd.bool w A xs.length xs ∧ xs.length ≤ c ∧ ∀ q ∈ xs, True := by
 refine open_C Kd.bool (fun _ => True) Try.underlying25 (by kernel_rfl) ?_ h
 intro n cs' y h hl
 obtain ⟨b, e, _⟩ := DataW.trod_bool (by kernel_rfl) h
 exact ⟨b, e, trivial⟩
end
end Go.Proofs.Ythobnoknbdljgaa.Hand
end
section
namespace Go.Proofs.Ythobnoknbdljgaa
open Go.RowKit Hand PB0 Go.Proofs.YthobnoknbdljgaaW.PrintWords Stub Stub2
theorem nmSum_cap (l : List ByteArray) (b : Nat) (h : ∀ s ∈ l, s.size ≤ b) : nmSum l ≤ (b + 1) * l.length := by
 induction l with
 | nil => simp [nmSum]
 | cons a l ih =>
  have h1 := h a (by simp)
  have h2 := ih (fun s hs => h s (by simp [hs]))
  have e : nmSum (a :: l) = (a.size + 1) + nmSum l := by simp [nmSum]
  rw [e, List.length_cons, Nat.mul_add]
  omega
theorem cutK_size (x : S56) : (cutK x).f2.size ≤ 60 := by
 unfold cutK
 show (x.f2.extract 0 (min x.f2.size 60)).size ≤ 60
 rw [ByteArray.size_extract]
 omega
structure Small (K : List S56) (J : List S54) (L : List S67) (S U : List Bool) : Prop where
 k : K.length ≤ 40
 j : J.length ≤ 100
 l : L.length ≤ 50
 s : S.length ≤ 40
 u : U.length ≤ 40
 n : ∀ x ∈ K, x.f2.size ≤ 60
 gk : ∀ x ∈ K, good56 x
 gj : ∀ x ∈ J, good54 x
 gl : ∀ x ∈ L, good67 x
theorem small_few {l0 : List S56} {l1 : List S54} {l2 : List S67} {l3 l4 : List Bool} (g0 : ∀ x ∈ l0, good56 x) (g1 : ∀ x ∈ l1, good54 x) (g2 : ∀ x ∈ l2, good67 x) :
  ∃ K J L S U, longcaselaw06_few.f l0 l1 l2 l3 l4 = some (K, J, L, S, U) ∧ Small K J L S U := by
 refine ⟨_, _, _, _, _, rfl, ?_⟩
 constructor
 ·
  rw [List.length_map, List.length_take]; omega
 ·
  rw [List.length_take]; omega
 ·
  rw [List.length_take]; omega
 ·
  rw [List.length_take]; omega
 ·
  rw [List.length_take]; omega
 ·
  intro x hx
  obtain ⟨y, _, rfl⟩ := List.mem_map.1 hx
  exact cutK_size y
 ·
  intro x hx
  obtain ⟨y, hy, rfl⟩ := List.mem_map.1 hx
  exact g0 y (List.mem_of_mem_take hy)
 ·
  exact fun x hx => g1 x (List.mem_of_mem_take hx)
 ·
  exact fun x hx => g2 x (List.mem_of_mem_take hx)
section
variable {K : List S56} {J : List S54} {L : List S67} {S U : List Bool}
theorem Small.ok (h : Small K J L S U) : encOK K J L S U := by
 have hn := nmSum_cap (names K) 60 (by
  intro s hs
  unfold names at hs
  obtain ⟨x, hx, rfl⟩ := List.mem_map.1 hs
  exact h.n x hx)
 have hl : (names K).length = K.length := by simp [names]
 rw [hl] at hn
 have := h.k
 have := h.j
 have := h.l
 have := h.s
 have := h.u
 unfold encOK
 omega
theorem Small.right (h : Small K J L S U) (a b : Int) : block_Right.f K J L S U a b = some (rightB a b K J L S U) := by
 unfold block_Right.f
 rw [if_pos h.ok]
theorem Small.same (h : Small K J L S U) : longcaseref06_Same.f K J L S U K J L S U = some true := by
 have h := h.ok
 unfold longcaseref06_Same.f sameB
 rw [if_pos ⟨h.1, h.2.2.1, h.2.2.2.1, h.2.2.2.2.1, h.2.2.2.2.2⟩]
 simp
end
end Go.Proofs.Ythobnoknbdljgaa
end
section
namespace Go.Proofs.Ythobnoknbdljgaa
open Go.RowKit Hand PB0 Go.Proofs.YthobnoknbdljgaaW.PrintWords Stub Stub2 PL6
theorem tcut_self {x : S56} (h : x.f2.size ≤ 60) : cutK x = x := by
 unfold cutK
 rw [Nat.min_eq_left h, ByteArray.extract_zero_size]
section
variable {K : List S56} {J : List S54} {L : List S67} {S U : List Bool}
theorem Small.again (h : Small K J L S U) : longcaselaw06_few.f K J L S U = some (K, J, L, S, U) := by
 unfold longcaselaw06_few.f
 rw [List.take_of_length_le h.k, List.take_of_length_le h.j, List.take_of_length_le h.l, List.take_of_length_le h.s, List.take_of_length_le h.u]
 have : K.map cutK = K := by
  conv => rhs; rw [← List.map_id K]
  exact List.map_congr_left fun x hx => tcut_self (h.n x hx)
 rw [this]
theorem Small.refRight (h : Small K J L S U) (a b : Int) (hg : ∀ x ∈ L, -9223372036854775808 ≤ x.f1 ∧ x.f1 ≤ 9223372036854775807) : longcaseref06_Right.f K J L S U a b = some (rightB a b K J L S U) := by
 unfold longcaseref06_Right.f
 rw [if_pos ⟨h.ok, hg⟩]
theorem Small.refEnc (h : Small K J L S U) (m : Nat) (hm : m ≤ 8) (v : Int) : longcaseref06_Encode.f K J L S U (m : Int) v = some (encL m K J L S U, v, (U.length : Int), (S.length : Int), (L.length : Int), (J.length : Int), (K.length : Int), ((nmSt (names K)).1.length : Int)) := by
 unfold longcaseref06_Encode.f
 rw [if_pos ⟨h.ok, by omega, by omega⟩, Int.toNat_natCast]
theorem tells_j1 (h : Small K J L S U) (k : Nat) (a v : Int) (b : Bool) (hb : b = !decide (1 ≤ v ∧ v ≤ 4 ∧ rightB a v K J L S U = true)) :
  longcaselaw06_BlockTells.j1 (k + 1) a v true (encR K J L S U a v).1 (encR K J L S U a v).2.2.2.2.2.2.2.2 b K J L S U (encR K J L S U a v).2.1 (encR K J L S U a v).2.2.1 (encR K J L S U a v).2.2.2.1 (encR K J L S U a v).2.2.2.2.1 (encR K J L S U a v).2.2.2.2.2.1 (encR K J L S U a v).2.2.2.2.2.2.1 (encR K J L S U a v).2.2.2.2.2.2.2.1 = some true := by
 by_cases hv : 1 ≤ v ∧ v ≤ 4 ∧ rightB a v K J L S U = true
 ·
  rw [decide_eq_true hv] at hb
  subst hb
  obtain ⟨m, hm, rfl⟩ : ∃ m : Nat, (m = 4 ∨ m = 8) ∧ a = (m : Int) := by
   rcases (rightB_bd hv.2.2).1 with rfl | rfl
   ·
    exact ⟨4, .inl rfl, rfl⟩
   ·
    exact ⟨8, .inr rfl, rfl⟩
  have hr := hv.2.2
  have hb := rightB_bd hr
  have hne : 1 ≤ (nmSt (names K)).1.length := by
   have := nmSt_ne (names K) (by intro e; have := congrArg List.length e; simp [names] at this; rw [this] at hb; simp at hb)
   cases h : (nmSt (names K)).1 with
   | nil => exact absurd h this
   | cons _ _ => simp
  have hP : rightP v (U.length : Int) (S.length : Int) (L.length : Int) (J.length : Int) (K.length : Int) ((nmSt (names K)).1.length : Int) := by
   have q1 := h.j
   have q2 := h.l
   have q3 := h.k
   have q4 := h.s
   have q5 := h.u
   unfold rightP
   omega
  have ll := encL_len m K J L S U
  have hbody : header_Body.f v (U.length : Int) (S.length : Int) (L.length : Int) (J.length : Int) (K.length : Int) ((nmSt (names K)).1.length : Int) m = some ((bodyN m U.length S.length L.length J.length K.length (nmSt (names K)).1.length : Nat) : Int) := by
   rcases hm with rfl | rfl
   ·
    exact body_4 v _ _ _ _ _ _ hP
   ·
    exact body_8 v _ _ _ _ _ _ hP
  unfold encR
  rw [if_pos hv, Int.toNat_natCast, longcaselaw06_BlockTells.j1, if_neg (by decide)]
  unfold longcaselaw06_ref.f
  rw [Option.bind_some]
  dsimp only
  rw [h.refEnc m (by omega) v, Option.bind_some, if_pos rfl, if_pos rfl]
  dsimp only
  rw [if_pos rfl, if_pos (by simp), hright_f, decide_eq_true hP, Option.bind_some, if_pos rfl, hbody, Option.bind_some, ll]
  simp
 ·
  rw [decide_eq_false hv] at hb
  subst hb
  unfold encR
  rw [if_neg hv, longcaselaw06_BlockTells.j1, if_pos (by decide), if_pos rfl, if_pos rfl, if_pos (by simp)]
  rfl
theorem tells_s (h : Small K J L S U) (hg : ∀ x ∈ L, -9223372036854775808 ≤ x.f1 ∧ x.f1 ≤ 9223372036854775807) {l0 : List S56} {l1 : List S54} {l2 : List S67} {l3 l4 : List Bool} (hf : longcaselaw06_few.f l0 l1 l2 l3 l4 = some (K, J, L, S, U)) (a v : Int) : longcaselaw06_BlockTells.f 2 l0 l1 l2 l3 l4 a v = some true := by
 have henc : block_Encode.f K J L S U a v = some (encR K J L S U a v) := by
  unfold block_Encode.f
  rw [if_pos h.ok]
 have h1 := fun b hb => tells_j1 h 0 a v b hb
 unfold longcaselaw06_BlockTells.f longcaselaw06_shown.f
 rw [Option.bind_some, hf, Option.bind_some]
 dsimp only
 rw [h.again, Option.bind_some]
 unfold longcaselaw06_ref.f
 rw [Option.bind_some]
 dsimp only
 rw [h.refRight a v hg, Option.bind_some, henc, Option.bind_some, h.right, Option.bind_some, if_neg (by simp), Option.bind_some, Option.bind_some]
 dsimp only
 rw [h.same, Option.bind_some, longcaselaw06_BlockTells.j0, if_neg (by decide)]
 by_cases hr : rightB a v K J L S U = true
 ·
  rw [hr, if_pos rfl]
  by_cases hv : v < 1
  ·
   rw [if_pos hv]
   exact h1 true (by rw [decide_eq_false (fun q => by omega)]; rfl)
  ·
   rw [if_neg hv]
   refine h1 _ ?_
   by_cases hv4 : v > 4
   ·
    rw [decide_eq_true hv4, decide_eq_false (fun q => by omega)]
    rfl
   ·
    rw [decide_eq_false hv4, decide_eq_true ⟨by omega, by omega, hr⟩]
    rfl
 ·
  rw [if_neg hr]
  exact h1 true (by rw [decide_eq_false (fun q => hr q.2.2)]; rfl)
end
theorem tells_f {l0 : List S56} {l1 : List S54} {l2 : List S67} {l3 l4 : List Bool} (g0 : ∀ x ∈ l0, good56 x) (g1 : ∀ x ∈ l1, good54 x) (g2 : ∀ x ∈ l2, good67 x) (a v : Int) : longcaselaw06_BlockTells.f 2 l0 l1 l2 l3 l4 a v = some true := by
 obtain ⟨K, J, L, S, U, hf, hs⟩ := small_few (l3 := l3) (l4 := l4) g0 g1 g2
 refine tells_s hs ?_ hf a v
 intro x hx
 exact (hs.gl x hx).2
end Go.Proofs.Ythobnoknbdljgaa
namespace Go.Proofs.Ythobnoknbdljgaa.Hand
open Go.RowKit PB0 Go.Proofs.YthobnoknbdljgaaW.PrintWords
theorem tells_row (A0_0 : Option Addr) (c0_0 : Nat) (l0_0 : List S56) (A0_1 : Option Addr) (c0_1 : Nat) (l0_1 : List S54) (A0_2 : Option Addr) (c0_2 : Nat) (l0_2 : List S67) (A0_3 : Option Addr) (c0_3 : Nat) (l0_3 : List Bool) (A0_4 : Option Addr) (c0_4 : Nat) (l0_4 : List Bool) (a1 a2 : Int) (w : World) (hr0_0 : Kd.C k56 w A0_0 l0_0.length l0_0) (hc0_0 : l0_0.length ≤ c0_0) (hr0_1 : Kd.C k54 w A0_1 l0_1.length l0_1) (hc0_1 : l0_1.length ≤ c0_1) (hr0_2 : Kd.C k67 w A0_2 l0_2.length l0_2) (hc0_2 : l0_2.length ≤ c0_2) (hr0_3 : Kd.C Kd.bool w A0_3 l0_3.length l0_3) (hc0_3 : l0_3.length ≤ c0_3) (hr0_4 : Kd.C Kd.bool w A0_4 l0_4.length l0_4) (hc0_4 : l0_4.length ≤ c0_4) (g0 : ∀ x ∈ l0_0, good56 x) (g1 : ∀ x ∈ l0_1, good54 x) (g2 : ∀ x ∈ l0_2, good67 x) (_ : (Lit.int .i64 a1).wf = true) (_ : (Lit.int .i64 a2).wf = true) :
  Calls Try.prog 3 #[.agg #[.slice A0_0 l0_0.length c0_0, .slice A0_1 l0_1.length c0_1, .slice A0_2 l0_2.length c0_2, .slice A0_3 l0_3.length c0_3, .slice A0_4 l0_4.length c0_4], .int .i64 a1, .int .i64 a2] w fun e w' => e = .returned (.bool true) ∧ Below w.heap.size w w' :=
 PL6.longcaselaw06_BlockTells.calls 2 A0_0 c0_0 l0_0 A0_1 c0_1 l0_1 A0_2 c0_2 l0_2 A0_3 c0_3 l0_3 A0_4 c0_4 l0_4 a1 a2 true w hr0_0 hc0_0 hr0_1 hc0_1 hr0_2 hc0_2 hr0_3 hc0_3 hr0_4 hc0_4 (tells_f g0 g1 g2 a1 a2) rfl
end Go.Proofs.Ythobnoknbdljgaa.Hand
end
