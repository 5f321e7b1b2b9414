/- What the claim needs of its texts, one behind the other (laid by a program of the session's). -/
import Derived.Test.YthobnoknbdljgaaZRules5
import Derived.Lib.SmallJoins
import Derived.Deep.Slices
import Derived.Deep.Strs
import Derived.Deep.Fields
import Derived.ChangeSame
section
namespace Go.Proofs.Ythobnoknbdljgaa.PL4
open Go.Proofs.Ythobnoknbdljgaa.PB0 Sq
open Go.RowKit Go.Proofs.Ythobnoknbdljgaa.Stub2 Go.Proofs.Ythobnoknbdljgaa.Stub Go.Proofs.Ythobnoknbdljgaa.Hand Go.Proofs.YthobnoknbdljgaaW.PrintWords Go.Proofs.YthobnoknbdljgaaW.PrintLast Go.Proofs.YthobnoknbdljgaaW.PrintMore
attribute [local go_sem] max2_int min2_int max_two min_two max_three min_three max_four min_four
set_option linter.unusedVariables false
set_option linter.unusedSimpArgs false
mutual
def longcaselaw06_BlockRules.j0 : Nat → Int → Bool → Int → Int → List (S56) → List (S54) → List (S67) → List Bool → List Bool → Option (Bool)
 | 0, _, _, _, _, _, _, _, _, _ => none
 | k + 1, x1, x5, x6, x8, x102000, x102001, x102002, x102003, x102004 => (longcaselaw06_few.f x102000 x102001 x102002 x102003 x102004).bind fun bt140 => (if x8 < 9223372036854775807 then (if bt140.2.1.length < 8796093022208 then ((block_Right.f bt140.1 (bt140.2.1 ++ [(⟨wrap64 (x8 + 1), Go.bits .and .i64 x1 511⟩ : S54)]) bt140.2.2.1 bt140.2.2.2.1 bt140.2.2.2.2 8 4).bind fun t158 => (if (t158 != (decide ((Go.bits .and .i64 x1 511) < x6))) = true then (some false) else (longcaselaw06_BlockRules.j1 k x5 x6 x102000 x102001 x102002 x102003 x102004))) else (none)) else (longcaselaw06_BlockRules.j1 k x5 x6 x102000 x102001 x102002 x102003 x102004))
def longcaselaw06_BlockRules.j1 : Nat → Bool → Int → List (S56) → List (S54) → List (S67) → List Bool → List Bool → Option (Bool)
 | 0, _, _, _, _, _, _, _ => none
 | k + 1, x5, x6, x102000, x102001, x102002, x102003, x102004 => (longcaselaw06_few.f x102000 x102001 x102002 x102003 x102004).bind fun bt159 => (if 0 ≤ (wrap64 (x6 + 1)) then (if (wrap64 (x6 + 1) : Int).toNat ≤ 281474976710656 then ((longcaselaw06_few.f x102000 x102001 x102002 x102003 x102004).bind fun bt177 => (if x6 > 0 then (if 0 < (bt177.1.length : Int) then (if x5 = true then ((block_Right.f bt159.1 bt159.2.1 bt159.2.2.1 (List.replicate (wrap64 (x6 + 1) : Int).toNat false) bt159.2.2.2.2 8 4).bind fun t194 => (if t194 = true then (some false) else ((block_Right.f (bt177.1.set (0 : Int).toNat (⟨(rd_T56 bt177.1 0).f0, (rd_T56 bt177.1 0).f1, (⟨#[0]⟩ : ByteArray)⟩ : S56)) bt177.2.1 bt177.2.2.1 bt177.2.2.2.1 bt177.2.2.2.2 8 4).bind fun t195 => (some (!t195))))) else (some false)) else (none)) else (if x5 = true then (some false) else (some false)))) else (none)) else (none))
end
def longcaselaw06_BlockRules.f (k : Nat) (l0_0 : List (S56)) (l0_1 : List (S54)) (l0_2 : List (S67)) (l0_3 : List Bool) (l0_4 : List Bool) (a1 : Int) : Option (Bool) := (longcaselaw06_shown.f).bind fun t102 => ((longcaselaw06_few.f l0_0 l0_1 l0_2 l0_3 l0_4).bind fun bt103 => ((block_Right.f bt103.1 bt103.2.1 bt103.2.2.1 bt103.2.2.2.1 bt103.2.2.2.2 8 4).bind fun t118 => (if t118 = true then ((longcaselaw06_few.f bt103.1 bt103.2.1 bt103.2.2.1 bt103.2.2.2.1 bt103.2.2.2.2).bind fun bt119 => (if (bt119.2.1.length : Int) > 0 then (if 0 ≤ (wrap64 ((bt119.2.1.length : Int) - 1)) then (if (wrap64 ((bt119.2.1.length : Int) - 1)) < (bt119.2.1.length : Int) then (if bt119.2.1.length < 8796093022208 then ((block_Right.f bt119.1 (bt119.2.1 ++ [(⟨(rd_T54 bt119.2.1 (wrap64 ((bt119.2.1.length : Int) - 1))).f0, 0⟩ : S54)]) bt119.2.2.1 bt119.2.2.2.1 bt119.2.2.2.2 8 4).bind fun t139 => (if t139 = true then (some false) else (longcaselaw06_BlockRules.j0 k a1 t102 (bt103.1.length : Int) ((rd_T54 bt119.2.1 (wrap64 ((bt119.2.1.length : Int) - 1))).f0) bt103.1 bt103.2.1 bt103.2.2.1 bt103.2.2.2.1 bt103.2.2.2.2))) else (none)) else (none)) else (none)) else (longcaselaw06_BlockRules.j0 k a1 t102 (bt103.1.length : Int) 0 bt103.1 bt103.2.1 bt103.2.2.1 bt103.2.2.2.1 bt103.2.2.2.2))) else (some t102))))
theorem longcaselaw06_BlockRules.mono_l : ∀ k, (∀ y0 y1 y2 y3 y4 y5 y6 y7 y8, LeO (longcaselaw06_BlockRules.j0 k y0 y1 y2 y3 y4 y5 y6 y7 y8) (longcaselaw06_BlockRules.j0 (k + 1) y0 y1 y2 y3 y4 y5 y6 y7 y8)) ∧ (∀ y0 y1 y2 y3 y4 y5 y6, LeO (longcaselaw06_BlockRules.j1 k y0 y1 y2 y3 y4 y5 y6) (longcaselaw06_BlockRules.j1 (k + 1) y0 y1 y2 y3 y4 y5 y6))
 | 0 => ⟨fun _ _ _ _ _ _ _ _ _ r h => by simp [longcaselaw06_BlockRules.j0] at h, fun _ _ _ _ _ _ _ r h => by simp [longcaselaw06_BlockRules.j1] at h⟩
 | k + 1 => by
  obtain ⟨ih0, ih1⟩ := longcaselaw06_BlockRules.mono_l k
  refine ⟨?_, ?_⟩
  ·
   intro y0 y1 y2 y3 y4 y5 y6 y7 y8
   unfold longcaselaw06_BlockRules.j0
   repeat' first
   | (with_reducible exact ih0 _ _ _ _ _ _ _ _ _)
   | (with_reducible exact ih1 _ _ _ _ _ _ _)
   | (with_reducible exact LeO.refl _)
   | (with_reducible exact LeO.none _)
   | (with_reducible refine LeO.ite ?_ ?_)
   | (with_reducible refine LeO.bind ?_ (fun _ => ?_))
   | exact ih0 _ _ _ _ _ _ _ _ _
   | exact ih1 _ _ _ _ _ _ _
   | exact LeO.none _
   | refine LeO.ite ?_ ?_
   | refine LeO.bind ?_ (fun _ => ?_)
  ·
   intro y0 y1 y2 y3 y4 y5 y6
   unfold longcaselaw06_BlockRules.j1
   repeat' first
   | (with_reducible exact ih0 _ _ _ _ _ _ _ _ _)
   | (with_reducible exact ih1 _ _ _ _ _ _ _)
   | (with_reducible exact LeO.refl _)
   | (with_reducible exact LeO.none _)
   | (with_reducible refine LeO.ite ?_ ?_)
   | (with_reducible refine LeO.bind ?_ (fun _ => ?_))
   | exact ih0 _ _ _ _ _ _ _ _ _
   | exact ih1 _ _ _ _ _ _ _
   | exact LeO.none _
   | refine LeO.ite ?_ ?_
   | refine LeO.bind ?_ (fun _ => ?_)
theorem longcaselaw06_BlockRules.mono : ∀ a0 a1 a2 a3 a4 a5 k, LeO (longcaselaw06_BlockRules.f k a0 a1 a2 a3 a4 a5) (longcaselaw06_BlockRules.f (k + 1) a0 a1 a2 a3 a4 a5) := by
 intro a0 a1 a2 a3 a4 a5 k
 obtain ⟨ih0, ih1⟩ := longcaselaw06_BlockRules.mono_l k
 unfold longcaselaw06_BlockRules.f
 repeat' first
   | (with_reducible exact ih0 _ _ _ _ _ _ _ _ _)
   | (with_reducible exact ih1 _ _ _ _ _ _ _)
   | (with_reducible exact LeO.refl _)
   | (with_reducible exact LeO.none _)
   | (with_reducible refine LeO.ite ?_ ?_)
   | (with_reducible refine LeO.bind ?_ (fun _ => ?_))
   | exact ih0 _ _ _ _ _ _ _ _ _
   | exact ih1 _ _ _ _ _ _ _
   | exact LeO.none _
   | refine LeO.ite ?_ ?_
   | refine LeO.bind ?_ (fun _ => ?_)
set_option maxHeartbeats 8000000 in
set_option maxRecDepth 100000 in
theorem longcaselaw06_BlockRules.calls (k : Nat) (A0_0 : Option Addr) (c0_0 : Nat) (l0_0 : List (S56)) (A0_1 : Option Addr) (c0_1 : Nat) (l0_1 : List (S54)) (A0_2 : Option Addr) (c0_2 : Nat) (l0_2 : List (S67)) (A0_3 : Option Addr) (c0_3 : Nat) (l0_3 : List Bool) (A0_4 : Option Addr) (c0_4 : Nat) (l0_4 : List Bool) (a1 : Int) (r : Bool) (w : World) (hr0_0 : Kd.C k56 w A0_0 l0_0.length l0_0) (hc0_0 : l0_0.length ≤ c0_0) (hr0_1 : Kd.C k54 w A0_1 l0_1.length l0_1) (hc0_1 : l0_1.length ≤ c0_1) (hr0_2 : Kd.C k67 w A0_2 l0_2.length l0_2) (hc0_2 : l0_2.length ≤ c0_2) (hr0_3 : Kd.C Kd.bool w A0_3 l0_3.length l0_3) (hc0_3 : l0_3.length ≤ c0_3) (hr0_4 : Kd.C Kd.bool w A0_4 l0_4.length l0_4) (hc0_4 : l0_4.length ≤ c0_4) (h : longcaselaw06_BlockRules.f k l0_0 l0_1 l0_2 l0_3 l0_4 a1 = some r) (hRT : r = true) :
  Calls Try.prog 7 #[.agg #[.slice A0_0 l0_0.length c0_0, .slice A0_1 l0_1.length c0_1, .slice A0_2 l0_2.length c0_2, .slice A0_3 l0_3.length c0_3, .slice A0_4 l0_4.length c0_4], .int .i64 a1] w fun e w' => e = .returned (.bool r) ∧ Below w.heap.size w w' := by
 have HRT := Aside0.mk hRT
 clear hRT
 have hu27 := Try.underlying27
 have hu54 := Try.underlying54
 have HR0_0 := Aside0.mk hr0_0
 have HC0_0 := Aside0.mk hc0_0
 clear hr0_0 hc0_0
 have HR0_1 := Aside0.mk hr0_1
 have HC0_1 := Aside0.mk hc0_1
 clear hr0_1 hc0_1
 have HR0_2 := Aside0.mk hr0_2
 have HC0_2 := Aside0.mk hc0_2
 clear hr0_2 hc0_2
 have HR0_3 := Aside0.mk hr0_3
 have HC0_3 := Aside0.mk hc0_3
 clear hr0_3 hc0_3
 have HR0_4 := Aside0.mk hr0_4
 have HC0_4 := Aside0.mk hc0_4
 clear hr0_4 hc0_4
 have HB := Aside0.mk (Below.refl w.heap.size w)
 have H : ((longcaselaw06_shown.f).bind fun t102 => ((longcaselaw06_few.f l0_0 l0_1 l0_2 l0_3 l0_4).bind fun bt103 => ((block_Right.f bt103.1 bt103.2.1 bt103.2.2.1 bt103.2.2.2.1 bt103.2.2.2.2 8 4).bind fun t118 => (if t118 = true then ((longcaselaw06_few.f bt103.1 bt103.2.1 bt103.2.2.1 bt103.2.2.2.1 bt103.2.2.2.2).bind fun bt119 => (if (bt119.2.1.length : Int) > 0 then (if 0 ≤ (wrap64 ((bt119.2.1.length : Int) - 1)) then (if (wrap64 ((bt119.2.1.length : Int) - 1)) < (bt119.2.1.length : Int) then (if bt119.2.1.length < 8796093022208 then ((block_Right.f bt119.1 (bt119.2.1 ++ [(⟨(rd_T54 bt119.2.1 (wrap64 ((bt119.2.1.length : Int) - 1))).f0, 0⟩ : S54)]) bt119.2.2.1 bt119.2.2.2.1 bt119.2.2.2.2 8 4).bind fun t139 => (if t139 = true then (some false) else (longcaselaw06_BlockRules.j0 k a1 t102 (bt103.1.length : Int) ((rd_T54 bt119.2.1 (wrap64 ((bt119.2.1.length : Int) - 1))).f0) bt103.1 bt103.2.1 bt103.2.2.1 bt103.2.2.2.1 bt103.2.2.2.2))) else (none)) else (none)) else (none)) else (longcaselaw06_BlockRules.j0 k a1 t102 (bt103.1.length : Int) 0 bt103.1 bt103.2.1 bt103.2.2.1 bt103.2.2.2.1 bt103.2.2.2.2))) else (some t102))))) = some r := h
 clear h
 replace H := Option.bind_eq_some_iff.mp H
 obtain ⟨t102, A30, H⟩ := H
 try dsimp only at H
 have A3 := Aside0.mk A30
 clear A30
 replace H := Option.bind_eq_some_iff.mp H
 obtain ⟨⟨t103, t106, t109, t112, t115⟩, A40, H⟩ := H
 try dsimp only at H
 have A4 := Aside0.mk A40
 clear A40
 replace H := Option.bind_eq_some_iff.mp H
 obtain ⟨t118, A50, H⟩ := H
 try dsimp only at H
 have A5 := Aside0.mk A50
 clear A50
 by_cases c6 : t118 = true
 ·
  subst c6
  have H1 : ((longcaselaw06_few.f t103 t106 t109 t112 t115).bind fun bt119 => (if (bt119.2.1.length : Int) > 0 then (if 0 ≤ (wrap64 ((bt119.2.1.length : Int) - 1)) then (if (wrap64 ((bt119.2.1.length : Int) - 1)) < (bt119.2.1.length : Int) then (if bt119.2.1.length < 8796093022208 then ((block_Right.f bt119.1 (bt119.2.1 ++ [(⟨(rd_T54 bt119.2.1 (wrap64 ((bt119.2.1.length : Int) - 1))).f0, 0⟩ : S54)]) bt119.2.2.1 bt119.2.2.2.1 bt119.2.2.2.2 8 4).bind fun t139 => (if t139 = true then (some false) else (longcaselaw06_BlockRules.j0 k a1 t102 (t103.length : Int) ((rd_T54 bt119.2.1 (wrap64 ((bt119.2.1.length : Int) - 1))).f0) t103 t106 t109 t112 t115))) else (none)) else (none)) else (none)) else (longcaselaw06_BlockRules.j0 k a1 t102 (t103.length : Int) 0 t103 t106 t109 t112 t115))) = some r := by rw [if_pos rfl] at H; exact H
  clear H
  have H := H1
  clear H1
  replace H := Option.bind_eq_some_iff.mp H
  obtain ⟨⟨t119, t122, t125, t128, t131⟩, A70, H⟩ := H
  try dsimp only at H
  have A7 := Aside0.mk A70
  clear A70
  have HC8 := Aside0.mk H
  clear H
  go_enter Try.func7, Try.ntmps7
  go_upto_if 25 with (first | ((with_reducible refine gate_dst (N := 2) rfl ?_); refine box_event ?hg (N := 2) ?hd (cs := #[.slice A0_0 l0_0.length c0_0, .slice A0_1 l0_1.length c0_1, .slice A0_2 l0_2.length c0_2, .slice A0_3 l0_3.length c0_3, .slice A0_4 l0_4.length c0_4]) (t := 27) ?hr ?_; (case hd => rfl); (case hg => rfl); (case hr => first | (go_simp; done) | (go_simp; rfl)); intro gb101 hg w9 hbox hb; have n0_ := Aside0.mk (below_step (by repeat (first | (with_reducible first | exact HB.out | apply below_alloc | apply pw_below_drewN | apply below_drew1) | exact HB.out)) hb); have n1_ := Aside0.mk (hbox); have n2_ := Aside0.mk ((by rw [hg]; exact (below_size (by repeat (first | (with_reducible first | exact HB.out | apply below_alloc | apply pw_below_drewN | apply below_drew1) | exact HB.out))) : w.heap.size ≤ gb101)); have n3_ := Aside0.mk ((by rw [hg]; exact (below_size (by repeat (first | (with_reducible first | exact HB.out | apply below_alloc | apply pw_below_drewN | apply below_drew1) | exact HB.out))) : w.heap.size ≤ gb101)); clear HB; have HB := n0_; have BK101 := n1_; have GW101 := n2_; have GE101 := n3_; clear n0_ n1_ n2_ n3_; clear hb hbox hg) | ((with_reducible refine gate_callee (f := 11) rfl ?_); refine goesL_ (some 10) rfl rfl Try.func11 (by kernel_rfl) rfl #[] rfl (by (try simp only [List.map_toArray, List.map_cons, List.map_nil]); first | done | rfl | (simp only [List.length_drop, List.length_take]; rfl)) ?_; (with_reducible refine (longcaselaw06_shown.calls  t102 _ A3.out).mono ?_); rintro e w10 ⟨rfl, hb⟩; refine ⟨_, rfl, ?_⟩; have n0_ := kbb BK101 hb; have n1_ := Aside0.mk (below_step (by repeat (first | (with_reducible first | exact HB.out | apply below_alloc | apply pw_below_drewN | apply below_drew1 | refine below_set ?_ GE101.out) | exact HB.out)) hb); clear BK101; clear HB; have BK101 := n0_; have HB := n1_; clear n0_ n1_; (try clear hb); (try clear hb2); (try clear hk); (try clear hi); have hcz11_0 := kc BK101 0 rfl; have hcz11_1 := kc BK101 1 rfl; have hcz11_2 := kc BK101 2 rfl; have hcz11_3 := kc BK101 3 rfl; have hcz11_4 := kc BK101 4 rfl; have hfz11_0 := blk_frozen BK101.out 0; have hfz11_1 := blk_frozen BK101.out 1; have hfz11_2 := blk_frozen BK101.out 2; have hfz11_3 := blk_frozen BK101.out 3; have hfz11_4 := blk_frozen BK101.out 4) | ((with_reducible refine gate_callee (f := 12) rfl ?_); refine goesL_ (some 12) rfl rfl Try.func12 (by kernel_rfl) rfl #[.agg #[.slice A0_0 l0_0.length c0_0, .slice A0_1 l0_1.length c0_1, .slice A0_2 l0_2.length c0_2, .slice A0_3 l0_3.length c0_3, .slice A0_4 l0_4.length c0_4]] rfl (by (try simp only [List.map_toArray, List.map_cons, List.map_nil]); first | done | rfl | (simp only [List.length_drop, List.length_take]; rfl)) ?_; (with_reducible refine (longcaselaw06_few.calls _ _ l0_0 _ _ l0_1 _ _ l0_2 _ _ l0_3 _ _ l0_4 t103 t106 t109 t112 t115 _ ?side1 ?side2 ?side3 ?side4 ?side5 ?side6 ?side7 ?side8 ?side9 ?side10 A4.out).mono ?_); (case side1 => repeat (first | exact (Kd.C_below HR0_0.out HB.out) | (with_reducible refine Kd.C_alloc ?_ _) | (with_reducible refine Kd.C_drewN ?_ _) | (with_reducible refine Kd.C_drew ?_))); (case side2 => exact HC0_0.out); (case side3 => repeat (first | exact (Kd.C_below HR0_1.out HB.out) | (with_reducible refine Kd.C_alloc ?_ _) | (with_reducible refine Kd.C_drewN ?_ _) | (with_reducible refine Kd.C_drew ?_))); (case side4 => exact HC0_1.out); (case side5 => repeat (first | exact (Kd.C_below HR0_2.out HB.out) | (with_reducible refine Kd.C_alloc ?_ _) | (with_reducible refine Kd.C_drewN ?_ _) | (with_reducible refine Kd.C_drew ?_))); (case side6 => exact HC0_2.out); (case side7 => repeat (first | exact (Kd.C_below HR0_3.out HB.out) | (with_reducible refine Kd.C_alloc ?_ _) | (with_reducible refine Kd.C_drewN ?_ _) | (with_reducible refine Kd.C_drew ?_))); (case side8 => exact HC0_3.out); (case side9 => repeat (first | exact (Kd.C_below HR0_4.out HB.out) | (with_reducible refine Kd.C_alloc ?_ _) | (with_reducible refine Kd.C_drewN ?_ _) | (with_reducible refine Kd.C_drew ?_))); (case side10 => exact HC0_4.out); rintro e w12 ⟨v104, v107, v110, v113, v116, rfl, ho0, ho1, ho2, ho3, ho4, hb⟩; refine ⟨_, rfl, ?_⟩; have n0_ := Aside0.mk (Kd.R_lower ho0 (below_size (by repeat (first | (with_reducible first | exact HB.out | apply below_alloc | apply pw_below_drewN | apply below_drew1 | refine below_set ?_ GE101.out) | exact HB.out)))); have n1_ := Aside0.mk (Kd.R_lower ho1 (below_size (by repeat (first | (with_reducible first | exact HB.out | apply below_alloc | apply pw_below_drewN | apply below_drew1 | refine below_set ?_ GE101.out) | exact HB.out)))); have n2_ := Aside0.mk (Kd.R_lower ho2 (below_size (by repeat (first | (with_reducible first | exact HB.out | apply below_alloc | apply pw_below_drewN | apply below_drew1 | refine below_set ?_ GE101.out) | exact HB.out)))); have n3_ := Aside0.mk (Kd.R_lower ho3 (below_size (by repeat (first | (with_reducible first | exact HB.out | apply below_alloc | apply pw_below_drewN | apply below_drew1 | refine below_set ?_ GE101.out) | exact HB.out)))); have n4_ := Aside0.mk (Kd.R_lower ho4 (below_size (by repeat (first | (with_reducible first | exact HB.out | apply below_alloc | apply pw_below_drewN | apply below_drew1 | refine below_set ?_ GE101.out) | exact HB.out)))); have n5_ := kbb BK101 hb; have n6_ := Aside0.mk (below_step (by repeat (first | (with_reducible first | exact HB.out | apply below_alloc | apply pw_below_drewN | apply below_drew1 | refine below_set ?_ GE101.out) | exact HB.out)) hb); clear BK101; clear HB; have HO105 := n0_; have HO108 := n1_; have HO111 := n2_; have HO114 := n3_; have HO117 := n4_; have BK101 := n5_; have HB := n6_; clear n0_ n1_ n2_ n3_ n4_ n5_ n6_; (try clear hb); (try clear hb2); (try clear hk); (try clear hi); (try clear ho0); (try clear ho1); (try clear ho2); (try clear ho3); (try clear ho4); obtain ⟨Ao13, co13, eo13⟩ := Kd.R_slice HO105.out; subst eo13; have hcz14_0 := kc BK101 0 rfl; have hcz14_1 := kc BK101 1 rfl; have hcz14_2 := kc BK101 2 rfl; have hcz14_3 := kc BK101 3 rfl; have hcz14_4 := kc BK101 4 rfl; have hfz14_0 := blk_frozen BK101.out 0; have hfz14_1 := blk_frozen BK101.out 1; have hfz14_2 := blk_frozen BK101.out 2; have hfz14_3 := blk_frozen BK101.out 3; have hfz14_4 := blk_frozen BK101.out 4; obtain ⟨Ao15, co15, eo15⟩ := Kd.R_slice HO108.out; subst eo15; obtain ⟨Ao16, co16, eo16⟩ := Kd.R_slice HO111.out; subst eo16; obtain ⟨Ao17, co17, eo17⟩ := Kd.R_slice HO114.out; subst eo17; obtain ⟨Ao18, co18, eo18⟩ := Kd.R_slice HO117.out; subst eo18) | ((with_reducible refine gate_callee (f := 16) rfl ?_); refine goesL_ (some 14) rfl rfl Try.func16 (by kernel_rfl) rfl #[.agg #[.slice Ao13 t103.length co13, .slice Ao15 t106.length co15, .slice Ao16 t109.length co16, .slice Ao17 t112.length co17, .slice Ao18 t115.length co18], .int .i64 8, .int .i64 4] rfl (by (try simp only [List.map_toArray, List.map_cons, List.map_nil]); first | done | rfl | (simp only [List.length_drop, List.length_take]; rfl)) ?_; (with_reducible refine (block_Right.calls _ _ t103 _ _ t106 _ _ t109 _ _ t112 _ _ t115 8 4 true _ ?side1 ?side2 ?side3 ?side4 ?side5 ?side6 ?side7 ?side8 ?side9 ?side10 A5.out).mono ?_); (case side1 => refine (Kd.R_reads' (e := 56) (base := w.heap.size) (ok := fun k_ => True) (n := t103.length) (c := co13) ?_).2.2; exact (by (with_reducible repeat (first | apply Kd.R_alloc | apply Kd.R_drewN | apply Kd.R_drew)); exact (rp5 HO105 BK101))); (case side2 => exact (Kd.R_reads' HO105.out).2.1); (case side3 => refine (Kd.R_reads' (e := 54) (base := w.heap.size) (ok := fun k_ => True) (n := t106.length) (c := co15) ?_).2.2; exact (by (with_reducible repeat (first | apply Kd.R_alloc | apply Kd.R_drewN | apply Kd.R_drew)); exact (rp5 HO108 BK101))); (case side4 => exact (Kd.R_reads' HO108.out).2.1); (case side5 => refine (Kd.R_reads' (e := 67) (base := w.heap.size) (ok := fun k_ => True) (n := t109.length) (c := co16) ?_).2.2; exact (by (with_reducible repeat (first | apply Kd.R_alloc | apply Kd.R_drewN | apply Kd.R_drew)); exact (rp5 HO111 BK101))); (case side6 => exact (Kd.R_reads' HO111.out).2.1); (case side7 => refine (Kd.R_reads' (e := 4) (base := w.heap.size) (ok := fun k_ => some k_ ≠ (.slice Ao18 t115.length co18 : Value).ownBlock) (n := t112.length) (c := co17) ?_).2.2; exact (by (with_reducible repeat (first | apply Kd.R_alloc | apply Kd.R_drewN | apply Kd.R_drew)); exact (rp5 HO114 BK101))); (case side8 => exact (Kd.R_reads' HO114.out).2.1); (case side9 => refine (Kd.R_reads' (e := 4) (base := w.heap.size) (ok := fun k_ => some k_ ≠ (.slice Ao17 t112.length co17 : Value).ownBlock) (n := t115.length) (c := co18) ?_).2.2; exact (by (with_reducible repeat (first | apply Kd.R_alloc | apply Kd.R_drewN | apply Kd.R_drew)); exact (rp5 HO117 BK101))); (case side10 => exact (Kd.R_reads' HO117.out).2.1); rintro e w19 ⟨rfl, hb⟩; refine ⟨_, rfl, ?_⟩; have n0_ := Aside0.mk (Kd.R_below (by (with_reducible repeat (first | apply Kd.R_alloc | apply Kd.R_drewN | apply Kd.R_drew)); exact (rp5 HO105 BK101)) hb); have n1_ := Aside0.mk (Kd.R_below (by (with_reducible repeat (first | apply Kd.R_alloc | apply Kd.R_drewN | apply Kd.R_drew)); exact (rp5 HO108 BK101)) hb); have n2_ := Aside0.mk (Kd.R_below (by (with_reducible repeat (first | apply Kd.R_alloc | apply Kd.R_drewN | apply Kd.R_drew)); exact (rp5 HO111 BK101)) hb); have n3_ := Aside0.mk (Kd.R_below (by (with_reducible repeat (first | apply Kd.R_alloc | apply Kd.R_drewN | apply Kd.R_drew)); exact (rp5 HO114 BK101)) hb); have n4_ := Aside0.mk (Kd.R_below (by (with_reducible repeat (first | apply Kd.R_alloc | apply Kd.R_drewN | apply Kd.R_drew)); exact (rp5 HO117 BK101)) hb); have n5_ := Aside0.mk (blk_below (g := gb101) (o := .cells #[.slice Ao13 t103.length co13, .slice Ao15 t106.length co15, .slice Ao16 t109.length co16, .slice Ao17 t112.length co17, .slice Ao18 t115.length co18] 27 (0, 0)) (by (with_reducible repeat (first | refine blk_drewN ?_ _ | refine blk_drew ?_ | refine blk_alloc ?_ _)); refine blk_put (cs := #[.slice Ao13 t103.length co13, .slice Ao15 t106.length co15, .slice Ao16 t109.length co16, .slice Ao17 t112.length co17, .slice A0_4 l0_4.length c0_4]) ?_ 4 _ rfl; (with_reducible repeat (first | refine blk_drewN ?_ _ | refine blk_drew ?_ | refine blk_alloc ?_ _)); refine blk_put (cs := #[.slice Ao13 t103.length co13, .slice Ao15 t106.length co15, .slice Ao16 t109.length co16, .slice A0_3 l0_3.length c0_3, .slice A0_4 l0_4.length c0_4]) ?_ 3 _ rfl; (with_reducible repeat (first | refine blk_drewN ?_ _ | refine blk_drew ?_ | refine blk_alloc ?_ _)); refine blk_put (cs := #[.slice Ao13 t103.length co13, .slice Ao15 t106.length co15, .slice A0_2 l0_2.length c0_2, .slice A0_3 l0_3.length c0_3, .slice A0_4 l0_4.length c0_4]) ?_ 2 _ rfl; (with_reducible repeat (first | refine blk_drewN ?_ _ | refine blk_drew ?_ | refine blk_alloc ?_ _)); refine blk_put (cs := #[.slice Ao13 t103.length co13, .slice A0_1 l0_1.length c0_1, .slice A0_2 l0_2.length c0_2, .slice A0_3 l0_3.length c0_3, .slice A0_4 l0_4.length c0_4]) ?_ 1 _ rfl; (with_reducible repeat (first | refine blk_drewN ?_ _ | refine blk_drew ?_ | refine blk_alloc ?_ _)); refine blk_put (cs := #[.slice A0_0 l0_0.length c0_0, .slice A0_1 l0_1.length c0_1, .slice A0_2 l0_2.length c0_2, .slice A0_3 l0_3.length c0_3, .slice A0_4 l0_4.length c0_4]) ?_ 0 _ rfl; (with_reducible repeat (first | refine blk_drewN ?_ _ | refine blk_drew ?_ | refine blk_alloc ?_ _)); exact BK101.out) hb); have n6_ := Aside0.mk (below_step (by repeat (first | (with_reducible first | exact HB.out | apply below_alloc | apply pw_below_drewN | apply below_drew1 | refine below_set ?_ GE101.out) | exact HB.out)) hb); clear HO105; clear HO108; clear HO111; clear HO114; clear HO117; clear BK101; clear HB; have HO105 := n0_; have HO108 := n1_; have HO111 := n2_; have HO114 := n3_; have HO117 := n4_; have BK101 := n5_; have HB := n6_; clear n0_ n1_ n2_ n3_ n4_ n5_ n6_; (try clear hb); (try clear hb2); (try clear hk); (try clear hi); have hcz20_0 := kc BK101 0 rfl; have hcz20_1 := kc BK101 1 rfl; have hcz20_2 := kc BK101 2 rfl; have hcz20_3 := kc BK101 3 rfl; have hcz20_4 := kc BK101 4 rfl; have hfz20_0 := blk_frozen BK101.out 0; have hfz20_1 := blk_frozen BK101.out 1; have hfz20_2 := blk_frozen BK101.out 2; have hfz20_3 := blk_frozen BK101.out 3; have hfz20_4 := blk_frozen BK101.out 4) | ((with_reducible refine gate_callee (f := 12) rfl ?_); refine goesL_ (some 21) rfl rfl Try.func12 (by kernel_rfl) rfl #[.agg #[.slice Ao13 t103.length co13, .slice Ao15 t106.length co15, .slice Ao16 t109.length co16, .slice Ao17 t112.length co17, .slice Ao18 t115.length co18]] rfl (by (try simp only [List.map_toArray, List.map_cons, List.map_nil]); first | done | rfl | (simp only [List.length_drop, List.length_take]; rfl)) ?_; (with_reducible refine (longcaselaw06_few.calls _ _ t103 _ _ t106 _ _ t109 _ _ t112 _ _ t115 t119 t122 t125 t128 t131 _ ?side1 ?side2 ?side3 ?side4 ?side5 ?side6 ?side7 ?side8 ?side9 ?side10 A7.out).mono ?_); (case side1 => repeat (first | exact (Kd.R_reads' HO105.out).2.2 | (with_reducible refine Kd.C_alloc ?_ _) | (with_reducible refine Kd.C_drewN ?_ _) | (with_reducible refine Kd.C_drew ?_))); (case side2 => exact (Kd.R_reads' HO105.out).2.1); (case side3 => repeat (first | exact (Kd.R_reads' HO108.out).2.2 | (with_reducible refine Kd.C_alloc ?_ _) | (with_reducible refine Kd.C_drewN ?_ _) | (with_reducible refine Kd.C_drew ?_))); (case side4 => exact (Kd.R_reads' HO108.out).2.1); (case side5 => repeat (first | exact (Kd.R_reads' HO111.out).2.2 | (with_reducible refine Kd.C_alloc ?_ _) | (with_reducible refine Kd.C_drewN ?_ _) | (with_reducible refine Kd.C_drew ?_))); (case side6 => exact (Kd.R_reads' HO111.out).2.1); (case side7 => repeat (first | exact (Kd.R_reads' HO114.out).2.2 | (with_reducible refine Kd.C_alloc ?_ _) | (with_reducible refine Kd.C_drewN ?_ _) | (with_reducible refine Kd.C_drew ?_))); (case side8 => exact (Kd.R_reads' HO114.out).2.1); (case side9 => repeat (first | exact (Kd.R_reads' HO117.out).2.2 | (with_reducible refine Kd.C_alloc ?_ _) | (with_reducible refine Kd.C_drewN ?_ _) | (with_reducible refine Kd.C_drew ?_))); (case side10 => exact (Kd.R_reads' HO117.out).2.1); rintro e w21 ⟨v120, v123, v126, v129, v132, rfl, ho0, ho1, ho2, ho3, ho4, hb⟩; refine ⟨_, rfl, ?_⟩; have n0_ := Aside0.mk (Kd.R_elder' (kr HO105) (Kd.R_base ho0) hb); have n1_ := Aside0.mk (Kd.R_elder' (kr HO108) (Kd.R_base ho1) hb); have n2_ := Aside0.mk (Kd.R_elder' (kr HO111) (Kd.R_base ho2) hb); have n3_ := Aside0.mk (Kd.R_mono (Kd.R_told (Kd.R_told (Kd.R_old (kr HO114) hb) (Kd.R_base ho3)) (Kd.R_base ho4)) (fun _ h_ => h_.1)); have n4_ := Aside0.mk (Kd.R_mono (Kd.R_told (Kd.R_told (Kd.R_old (kr HO117) hb) (Kd.R_base ho3)) (Kd.R_base ho4)) (fun _ h_ => h_.1)); have n5_ := Aside0.mk (Kd.R_lower (Kd.R_new' ho0 (Kd.R_lt (kr HO105))) (below_size (by repeat (first | (with_reducible first | exact HB.out | apply below_alloc | apply pw_below_drewN | apply below_drew1 | refine below_set ?_ GE101.out) | exact HB.out)))); have n6_ := Aside0.mk (Kd.R_lower (Kd.R_new' ho1 (Kd.R_lt (kr HO108))) (below_size (by repeat (first | (with_reducible first | exact HB.out | apply below_alloc | apply pw_below_drewN | apply below_drew1 | refine below_set ?_ GE101.out) | exact HB.out)))); have n7_ := Aside0.mk (Kd.R_lower (Kd.R_new' ho2 (Kd.R_lt (kr HO111))) (below_size (by repeat (first | (with_reducible first | exact HB.out | apply below_alloc | apply pw_below_drewN | apply below_drew1 | refine below_set ?_ GE101.out) | exact HB.out)))); have n8_ := Aside0.mk (Kd.R_lower (Kd.R_new' (Kd.R_new' ho3 (Kd.R_lt (kr HO114))) (Kd.R_lt (kr HO117))) (below_size (by repeat (first | (with_reducible first | exact HB.out | apply below_alloc | apply pw_below_drewN | apply below_drew1 | refine below_set ?_ GE101.out) | exact HB.out)))); have n9_ := Aside0.mk (Kd.R_lower (Kd.R_new' (Kd.R_new' ho4 (Kd.R_lt (kr HO114))) (Kd.R_lt (kr HO117))) (below_size (by repeat (first | (with_reducible first | exact HB.out | apply below_alloc | apply pw_below_drewN | apply below_drew1 | refine below_set ?_ GE101.out) | exact HB.out)))); have n10_ := kbb BK101 hb; have n11_ := Aside0.mk (below_step (by repeat (first | (with_reducible first | exact HB.out | apply below_alloc | apply pw_below_drewN | apply below_drew1 | refine below_set ?_ GE101.out) | exact HB.out)) hb); clear HO105; clear HO108; clear HO111; clear HO114; clear HO117; clear BK101; clear HB; have HO105 := n0_; have HO108 := n1_; have HO111 := n2_; have HO114 := n3_; have HO117 := n4_; have HO121 := n5_; have HO124 := n6_; have HO127 := n7_; have HO130 := n8_; have HO133 := n9_; have BK101 := n10_; have HB := n11_; clear n0_ n1_ n2_ n3_ n4_ n5_ n6_ n7_ n8_ n9_ n10_ n11_; (try clear hb); (try clear hb2); (try clear hk); (try clear hi); (try clear ho0); (try clear ho1); (try clear ho2); (try clear ho3); (try clear ho4)) | ((with_reducible refine gate_dst (N := 7) rfl ?_); refine box_event ?hg (N := 7) ?hd (cs := #[.slice none 0 0, .slice none 0 0, .slice none 0 0, .slice none 0 0, .slice none 0 0]) (t := 27) ?hr ?_; (case hd => rfl); (case hg => rfl); (case hr => first | (go_simp; done) | (go_simp; rfl)); intro gb134 hg w22 hbox hb; have n0_ := krb HO105 hb; have n1_ := krb HO108 hb; have n2_ := krb HO111 hb; have n3_ := krb HO114 hb; have n4_ := krb HO117 hb; have n5_ := krb HO121 hb; have n6_ := krb HO124 hb; have n7_ := krb HO127 hb; have n8_ := krb HO130 hb; have n9_ := krb HO133 hb; have n10_ := kbb BK101 hb; have n11_ := Aside0.mk (below_step (by repeat (first | (with_reducible first | exact HB.out | apply below_alloc | apply pw_below_drewN | apply below_drew1 | refine below_set ?_ GE101.out) | exact HB.out)) hb); have n12_ := Aside0.mk (hbox); have n13_ := Aside0.mk ((by rw [hg]; exact (below_size (by repeat (first | (with_reducible first | exact HB.out | apply below_alloc | apply pw_below_drewN | apply below_drew1 | refine below_set ?_ GE101.out) | exact HB.out))) : w.heap.size ≤ gb134)); have n14_ := Aside0.mk ((by rw [hg]; exact (below_size (by repeat (first | (with_reducible first | exact HB.out | apply below_alloc | apply pw_below_drewN | apply below_drew1 | refine below_set ?_ GE101.out) | exact HB.out))) : w.heap.size ≤ gb134)); have n15_ := Aside0.mk ((by rw [hg]; exact Nat.ne_of_lt (blk_lt (g := gb101) (o := .cells #[.slice Ao13 t103.length co13, .slice Ao15 t106.length co15, .slice Ao16 t109.length co16, .slice Ao17 t112.length co17, .slice Ao18 t115.length co18] 27 (0, 0)) (kb BK101)) : gb101 ≠ gb134)); have n16_ := Aside0.mk ((by rw [hg]; exact Nat.ne_of_gt (blk_lt (g := gb101) (o := .cells #[.slice Ao13 t103.length co13, .slice Ao15 t106.length co15, .slice Ao16 t109.length co16, .slice Ao17 t112.length co17, .slice Ao18 t115.length co18] 27 (0, 0)) (kb BK101)) : gb134 ≠ gb101)); clear HO105; clear HO108; clear HO111; clear HO114; clear HO117; clear HO121; clear HO124; clear HO127; clear HO130; clear HO133; clear BK101; clear HB; have HO105 := n0_; have HO108 := n1_; have HO111 := n2_; have HO114 := n3_; have HO117 := n4_; have HO121 := n5_; have HO124 := n6_; have HO127 := n7_; have HO130 := n8_; have HO133 := n9_; have BK101 := n10_; have HB := n11_; have BK134 := n12_; have GW134 := n13_; have GE134 := n14_; have NB101_134 := n15_; have NB134_101 := n16_; clear n0_ n1_ n2_ n3_ n4_ n5_ n6_ n7_ n8_ n9_ n10_ n11_ n12_ n13_ n14_ n15_ n16_; clear hb hbox hg; obtain ⟨Ao23, co23, eo23⟩ := Kd.R_slice HO121.out; subst eo23; have hnb24 := NB134_101.out; have hnc24 := NB101_134.out; have hcz25_0 := kc BK134 0 rfl; have hcz25_1 := kc BK134 1 rfl; have hcz25_2 := kc BK134 2 rfl; have hcz25_3 := kc BK134 3 rfl; have hcz25_4 := kc BK134 4 rfl; have hfz25_0 := blk_frozen BK134.out 0; have hfz25_1 := blk_frozen BK134.out 1; have hfz25_2 := blk_frozen BK134.out 2; have hfz25_3 := blk_frozen BK134.out 3; have hfz25_4 := blk_frozen BK134.out 4; obtain ⟨Ao26, co26, eo26⟩ := Kd.R_slice HO124.out; subst eo26; obtain ⟨Ao27, co27, eo27⟩ := Kd.R_slice HO127.out; subst eo27; obtain ⟨Ao28, co28, eo28⟩ := Kd.R_slice HO130.out; subst eo28; obtain ⟨Ao29, co29, eo29⟩ := Kd.R_slice HO133.out; subst eo29))
  (try simp only [Act.put, List.setIfInBounds_toArray, List.set_cons_zero, List.set_cons_succ])
  go_cut [8] (fun v8 wc => ∃ (kq : Nat) (x8_7 : Int) (x135001_7 : List (S54)) (u135001 : Value), v8 = .int .i64 x8_7 ∧ Aside0 (longcaselaw06_BlockRules.j0 kq a1 t102 (t103.length : Int) x8_7 t103 t106 t109 t112 t115 = some r) ∧ Aside0 (kq ≤ k) ∧ Aside0 (Kd.R k56 56 wc w.heap.size (fun k_ => some k_ ≠ ((.slice Ao23 t119.length co23) : Value).ownBlock) (.slice Ao13 t103.length co13) t103) ∧ Aside0 (Kd.R k54 54 wc w.heap.size (fun k_ => some k_ ≠ (u135001 : Value).ownBlock) (.slice Ao15 t106.length co15) t106) ∧ Aside0 (Kd.R k67 67 wc w.heap.size (fun k_ => some k_ ≠ ((.slice Ao27 t125.length co27) : Value).ownBlock) (.slice Ao16 t109.length co16) t109) ∧ Aside0 (Kd.R Kd.bool 4 wc w.heap.size (fun k_ => some k_ ≠ ((.slice Ao18 t115.length co18) : Value).ownBlock ∧ some k_ ≠ ((.slice Ao28 t128.length co28) : Value).ownBlock ∧ some k_ ≠ ((.slice Ao29 t131.length co29) : Value).ownBlock) (.slice Ao17 t112.length co17) t112) ∧ Aside0 (Kd.R Kd.bool 4 wc w.heap.size (fun k_ => some k_ ≠ ((.slice Ao17 t112.length co17) : Value).ownBlock ∧ some k_ ≠ ((.slice Ao28 t128.length co28) : Value).ownBlock ∧ some k_ ≠ ((.slice Ao29 t131.length co29) : Value).ownBlock) (.slice Ao18 t115.length co18) t115) ∧ Aside0 (Kd.R k56 56 wc w.heap.size (fun k_ => some k_ ≠ ((.slice Ao13 t103.length co13) : Value).ownBlock) (.slice Ao23 t119.length co23) t119) ∧ Aside0 (Kd.R k54 54 wc w.heap.size (fun k_ => some k_ ≠ ((.slice Ao15 t106.length co15) : Value).ownBlock) u135001 x135001_7) ∧ Aside0 (Kd.R k67 67 wc w.heap.size (fun k_ => some k_ ≠ ((.slice Ao16 t109.length co16) : Value).ownBlock) (.slice Ao27 t125.length co27) t125) ∧ Aside0 (Kd.R Kd.bool 4 wc w.heap.size (fun k_ => some k_ ≠ ((.slice Ao17 t112.length co17) : Value).ownBlock ∧ some k_ ≠ ((.slice Ao18 t115.length co18) : Value).ownBlock ∧ some k_ ≠ ((.slice Ao29 t131.length co29) : Value).ownBlock) (.slice Ao28 t128.length co28) t128) ∧ Aside0 (Kd.R Kd.bool 4 wc w.heap.size (fun k_ => some k_ ≠ ((.slice Ao17 t112.length co17) : Value).ownBlock ∧ some k_ ≠ ((.slice Ao18 t115.length co18) : Value).ownBlock ∧ some k_ ≠ ((.slice Ao28 t128.length co28) : Value).ownBlock) (.slice Ao29 t131.length co29) t131) ∧ Aside0 (wc.heap[gb101]? = some (.cells #[(.slice Ao13 t103.length co13), (.slice Ao15 t106.length co15), (.slice Ao16 t109.length co16), (.slice Ao17 t112.length co17), (.slice Ao18 t115.length co18)] 27 (0, 0))) ∧ Aside0 (wc.heap[gb134]? = some (.cells #[(.slice Ao23 t119.length co23), u135001, (.slice Ao27 t125.length co27), (.slice Ao28 t128.length co28), (.slice Ao29 t131.length co29)] 27 (0, 0))) ∧ Aside0 (Below w.heap.size w wc))
  case first =>
   have H := HC8.out
   clear HC8
   by_cases c30 : (t122.length : Int) > 0
   ·
    rw [if_pos c30] at H
    have c30b0 : decide (0 < (t122.length : Int)) = true := decide_eq_true c30
    have c30b1 : decide (0 < t122.length) = true := decide_eq_true (by omega)
    clear c30
    (first | rw [c30b0] | rw [c30b1] | (simp only [i64_w, i32_w]; rw [c30b0]) | skip)
    obtain ⟨ji31, hji31⟩ : ∃ j_ : Int, (wrap64 ((t122.length : Int) - 1)) = j_ := ⟨_, rfl⟩
    replace H : (if 0 ≤ (ji31) then (if (ji31) < (t122.length : Int) then (if t122.length < 8796093022208 then ((block_Right.f t119 (t122 ++ [(⟨(rd_T54 t122 (ji31)).f0, 0⟩ : S54)]) t125 t128 t131 8 4).bind fun t139 => (if t139 = true then (some false) else (longcaselaw06_BlockRules.j0 k a1 t102 (t103.length : Int) ((rd_T54 t122 (ji31)).f0) t103 t106 t109 t112 t115))) else (none)) else (none)) else (none)) = some r := by first | (rw [hji31] at H; exact H) | (simp only [hji31] at H ⊢; exact H)
    have hji31w : (IntKind.i64.wrap ((t122.length : Int) - 1)) = ji31 := (i64_w _).trans hji31
    by_cases c32 : 0 ≤ (ji31)
    ·
     rw [if_pos c32] at H
     have c32b0 : decide (0 ≤ (ji31)) = true := decide_eq_true c32
     clear c32
     by_cases c33 : (ji31) < (t122.length : Int)
     ·
      rw [if_pos c33] at H
      have c33b0 : decide ((ji31) < (t122.length : Int)) = true := decide_eq_true c33
      clear c33
      by_cases c34 : t122.length < 8796093022208
      ·
       rw [if_pos c34] at H
       have LMc34 := Aside0.mk c34
       clear c34
       obtain ⟨y136, hy136⟩ : ∃ y_ : List (S54), y_ = (t122 ++ [(⟨(rd_T54 t122 (ji31)).f0, 0⟩ : S54)]) := ⟨_, rfl⟩
       replace H : ((block_Right.f t119 y136 t125 t128 t131 8 4).bind fun t139 => (if t139 = true then (some false) else (longcaselaw06_BlockRules.j0 k a1 t102 (t103.length : Int) ((rd_T54 t122 (ji31)).f0) t103 t106 t109 t112 t115))) = some r := by first | (rw [hy136]; with_reducible exact H) | (have H2_ := (Option.bind_some _ _).symm.trans H; rw [hy136]; with_reducible exact H2_) | (have H2_ := (Option.bind_some _ _).symm.trans H; with_reducible exact H2_) | with_reducible exact H | (rw [hy136]; exact H) | exact H
       have Ny136 := Aside0.mk hy136
       clear hy136
       replace H := Option.bind_eq_some_iff.mp H
       obtain ⟨t139, A350, H⟩ := H
       replace H : (if t139 = true then (some false) else (longcaselaw06_BlockRules.j0 k a1 t102 (t103.length : Int) ((rd_T54 t122 (ji31)).f0) t103 t106 t109 t112 t115)) = some r := H
       have A35 := Aside0.mk A350
       clear A350
       by_cases c36 : t139 = true
       ·
        subst c36
        have H1 : (some false) = some r := by rw [if_pos rfl] at H; exact H
        clear H
        have H := H1
        clear H1
        exact Bool.noConfusion ((Option.some.inj H).trans HRT.out)
       ·
        replace c36 := Bool.eq_false_iff.mpr c36
        subst c36
        have H1 : (longcaselaw06_BlockRules.j0 k a1 t102 (t103.length : Int) ((rd_T54 t122 (ji31)).f0) t103 t106 t109 t112 t115) = some r := by rw [if_neg (show ¬ (false = true) by decide)] at H; exact H
        clear H
        have H := H1
        clear H1
        have H' := Aside0.mk H
        clear H
        have hnb43 := NB134_101.out
        have hnc43 := NB101_134.out
        have hcz44_0 := kc BK134 0 rfl
        have hcz44_1 := kc BK134 1 rfl
        have hcz44_2 := kc BK134 2 rfl
        have hcz44_3 := kc BK134 3 rfl
        have hcz44_4 := kc BK134 4 rfl
        have hfz44_0 := blk_frozen BK134.out 0
        have hfz44_1 := blk_frozen BK134.out 1
        have hfz44_2 := blk_frozen BK134.out 2
        have hfz44_3 := blk_frozen BK134.out 3
        have hfz44_4 := blk_frozen BK134.out 4
        have p135 : 0 ≤ ((ji31) : Int) := of_decide_eq_true (by first | (with_reducible assumption) | assumption)
        have q135 : (ji31) < (t122.length : Int) := of_decide_eq_true (by first | (with_reducible assumption) | assumption)
        obtain ⟨ad135, e135, hx135_0, hx135_1⟩ := at_T54 (Kd.R_reads' HO124.out).2.2 (ji31) p135 q135
        cases e135
        have hn135_0 : ad135.block ≠ gb134 := Kd.own_blk (Kd.R_ne HO124.out BK134.out (by decide))
        have hn135_1 : ad135.block ≠ gb134 := Kd.own_blk (Kd.R_ne HO124.out BK134.out (by decide))
        have hn135_2 : ad135.block ≠ gb134 := Kd.own_blk (Kd.R_ne HO124.out BK134.out (by decide))
        have hn135_3 : ad135.block ≠ gb134 := Kd.own_blk (Kd.R_ne HO124.out BK134.out (by decide))
        have hn135_4 : ad135.block ≠ gb134 := Kd.own_blk (Kd.R_ne HO124.out BK134.out (by decide))
        replace hx135_0 := (cell_far (p := ⟨gb134, 0, none⟩) (by first | (rw [add_block]; exact hn135_0) | (show (Addr.add _ _).block ≠ _; rw [add_block]; exact hn135_0) | exact hn135_0) (.slice Ao23 t119.length co23)).trans hx135_0
        replace hx135_1 := (cell_far (p := ⟨gb134, 0, none⟩) (by first | (rw [add_block]; exact hn135_0) | (show (Addr.add _ _).block ≠ _; rw [add_block]; exact hn135_0) | exact hn135_0) (.slice Ao23 t119.length co23)).trans hx135_1
        replace hx135_0 := (cell_far (p := ⟨gb134, 1, none⟩) (by first | (rw [add_block]; exact hn135_1) | (show (Addr.add _ _).block ≠ _; rw [add_block]; exact hn135_1) | exact hn135_1) (.slice (some ad135) t122.length co26)).trans hx135_0
        replace hx135_1 := (cell_far (p := ⟨gb134, 1, none⟩) (by first | (rw [add_block]; exact hn135_1) | (show (Addr.add _ _).block ≠ _; rw [add_block]; exact hn135_1) | exact hn135_1) (.slice (some ad135) t122.length co26)).trans hx135_1
        replace hx135_0 := (cell_far (p := ⟨gb134, 2, none⟩) (by first | (rw [add_block]; exact hn135_2) | (show (Addr.add _ _).block ≠ _; rw [add_block]; exact hn135_2) | exact hn135_2) (.slice Ao27 t125.length co27)).trans hx135_0
        replace hx135_1 := (cell_far (p := ⟨gb134, 2, none⟩) (by first | (rw [add_block]; exact hn135_2) | (show (Addr.add _ _).block ≠ _; rw [add_block]; exact hn135_2) | exact hn135_2) (.slice Ao27 t125.length co27)).trans hx135_1
        replace hx135_0 := (cell_far (p := ⟨gb134, 3, none⟩) (by first | (rw [add_block]; exact hn135_3) | (show (Addr.add _ _).block ≠ _; rw [add_block]; exact hn135_3) | exact hn135_3) (.slice Ao28 t128.length co28)).trans hx135_0
        replace hx135_1 := (cell_far (p := ⟨gb134, 3, none⟩) (by first | (rw [add_block]; exact hn135_3) | (show (Addr.add _ _).block ≠ _; rw [add_block]; exact hn135_3) | exact hn135_3) (.slice Ao28 t128.length co28)).trans hx135_1
        replace hx135_0 := (cell_far (p := ⟨gb134, 4, none⟩) (by first | (rw [add_block]; exact hn135_4) | (show (Addr.add _ _).block ≠ _; rw [add_block]; exact hn135_4) | exact hn135_4) (.slice Ao29 t131.length co29)).trans hx135_0
        replace hx135_1 := (cell_far (p := ⟨gb134, 4, none⟩) (by first | (rw [add_block]; exact hn135_4) | (show (Addr.add _ _).block ≠ _; rw [add_block]; exact hn135_4) | exact hn135_4) (.slice Ao29 t131.length co29)).trans hx135_1
        clear hn135_0
        clear hn135_1
        clear hn135_2
        clear hn135_3
        clear hn135_4
        replace p135 := eq_true p135
        replace q135 := eq_true q135
        go_wp2_with (first | ((with_reducible refine gate_builtin (b := .append) (xs := #[.tmp 36, .tmp 39]) rfl ?_); at_builtin; refine Kd.R_append k54 (w0 := w) w.heap.size rfl (.tmp 36) (.tmp 39) 23 54 (.agg #[(.int .i64 0), (.int .i64 0)]) 16 rfl Try.underlying23 info54 rfl (by decide) (by omega) (.slice (some ad135) t122.length co26) t122 (⟨(rd_T54 t122 (ji31)).f0, 0⟩ : S54) [.int .i64 ((rd_T54 t122 (ji31)).f0), .int .i64 0] (fun k_ => some k_ ≠ (.slice Ao15 t106.length co15 : Value).ownBlock) (fun _ => False) rfl (by first | (go_simp; done) | (go_simp; rfl)) ?aP (fun _ hk => hk.elim) ?aF ?aO ?aB ?aS ?aL ?_; (case aP => exact k54_mkM _ _ _ (⟨(rd_T54 t122 (ji31)).f0, 0⟩ : S54)); (case aB => exact (by repeat (first | (with_reducible first | exact HB.out | apply below_alloc | apply pw_below_drewN | apply below_drew1 | refine below_set ?_ GE101.out | refine below_set ?_ GE134.out) | exact HB.out))); (case aF => exact (fun k_ hk => Kd.fresh' (Kd.R_lt (by (with_reducible repeat (first | apply Kd.R_alloc | apply Kd.R_drewN | apply Kd.R_drew)); exact (rp5 HO108 BK134))) k_ hk)); (case aO => exact (by (with_reducible repeat (first | apply Kd.R_alloc | apply Kd.R_drewN | apply Kd.R_drew)); exact Kd.R_mono (Kd.R_far (p := ⟨gb134, 4, none⟩) (Kd.R_far (p := ⟨gb134, 3, none⟩) (Kd.R_far (p := ⟨gb134, 2, none⟩) (Kd.R_far (p := ⟨gb134, 1, none⟩) (Kd.R_far (p := ⟨gb134, 0, none⟩) (Kd.R_types HO124.out BK134.out (by decide)) (fun _ hk => hk.2) (.slice Ao23 t119.length co23)) (fun _ hk => hk.2) (.slice (some ad135) t122.length co26)) (fun _ hk => hk.2) (.slice Ao27 t125.length co27)) (fun _ hk => hk.2) (.slice Ao28 t128.length co28)) (fun _ hk => hk.2) (.slice Ao29 t131.length co29)) (fun _ hk => hk.1.2))); (case aS => exact (below_size (by repeat (first | (with_reducible first | exact HB.out | apply below_alloc | apply pw_below_drewN | apply below_drew1 | refine below_set ?_ GE101.out | refine below_set ?_ GE134.out) | exact HB.out)))); (case aL => have := LMc34.out; omega); intro v137 w45 ho hb hg hat; rw [← Ny136.out] at ho; have n0_ := Aside0.mk (blk_grown (g := gb101) (o := .cells #[.slice Ao13 t103.length co13, .slice Ao15 t106.length co15, .slice Ao16 t109.length co16, .slice Ao17 t112.length co17, .slice Ao18 t115.length co18] 27 (0, 0)) (by (with_reducible repeat (first | refine blk_drewN ?_ _ | refine blk_drew ?_ | refine blk_alloc ?_ _)); refine blk_far ?_ NB101_134.out _; (with_reducible repeat (first | refine blk_drewN ?_ _ | refine blk_drew ?_ | refine blk_alloc ?_ _)); refine blk_far ?_ NB101_134.out _; (with_reducible repeat (first | refine blk_drewN ?_ _ | refine blk_drew ?_ | refine blk_alloc ?_ _)); refine blk_far ?_ NB101_134.out _; (with_reducible repeat (first | refine blk_drewN ?_ _ | refine blk_drew ?_ | refine blk_alloc ?_ _)); refine blk_far ?_ NB101_134.out _; (with_reducible repeat (first | refine blk_drewN ?_ _ | refine blk_drew ?_ | refine blk_alloc ?_ _)); refine blk_far ?_ NB101_134.out _; (with_reducible repeat (first | refine blk_drewN ?_ _ | refine blk_drew ?_ | refine blk_alloc ?_ _)); exact BK101.out) hg (Kd.R_ne HO124.out BK101.out (by decide))); have n1_ := Aside0.mk (Kd.R_over' (by (with_reducible repeat (first | apply Kd.R_alloc | apply Kd.R_drewN | apply Kd.R_drew)); exact (rp5 HO105 BK134)) (Kd.R_typed (by (with_reducible repeat (first | apply Kd.R_alloc | apply Kd.R_drewN | apply Kd.R_drew)); exact (rp5 HO124 BK134))) (by decide) hg); have n2_ := Aside0.mk (Kd.R_after (ok := (fun _ => True)) (by (with_reducible repeat (first | apply Kd.R_alloc | apply Kd.R_drewN | apply Kd.R_drew)); exact Kd.R_mono (Kd.R_far (p := ⟨gb134, 4, none⟩) (Kd.R_far (p := ⟨gb134, 3, none⟩) (Kd.R_far (p := ⟨gb134, 2, none⟩) (Kd.R_far (p := ⟨gb134, 1, none⟩) (Kd.R_far (p := ⟨gb134, 0, none⟩) (Kd.R_types HO108.out BK134.out (by decide)) (fun _ hk => hk.2) (.slice Ao23 t119.length co23)) (fun _ hk => hk.2) (.slice (some ad135) t122.length co26)) (fun _ hk => hk.2) (.slice Ao27 t125.length co27)) (fun _ hk => hk.2) (.slice Ao28 t128.length co28)) (fun _ hk => hk.2) (.slice Ao29 t131.length co29)) (fun _ hk => ⟨trivial, hk.1.2⟩)) hg hat); have n3_ := Aside0.mk (Kd.R_over' (by (with_reducible repeat (first | apply Kd.R_alloc | apply Kd.R_drewN | apply Kd.R_drew)); exact (rp5 HO111 BK134)) (Kd.R_typed (by (with_reducible repeat (first | apply Kd.R_alloc | apply Kd.R_drewN | apply Kd.R_drew)); exact (rp5 HO124 BK134))) (by decide) hg); have n4_ := Aside0.mk (Kd.R_over' (by (with_reducible repeat (first | apply Kd.R_alloc | apply Kd.R_drewN | apply Kd.R_drew)); exact (rp5 HO114 BK134)) (Kd.R_typed (by (with_reducible repeat (first | apply Kd.R_alloc | apply Kd.R_drewN | apply Kd.R_drew)); exact (rp5 HO124 BK134))) (by decide) hg); have n5_ := Aside0.mk (Kd.R_over' (by (with_reducible repeat (first | apply Kd.R_alloc | apply Kd.R_drewN | apply Kd.R_drew)); exact (rp5 HO117 BK134)) (Kd.R_typed (by (with_reducible repeat (first | apply Kd.R_alloc | apply Kd.R_drewN | apply Kd.R_drew)); exact (rp5 HO124 BK134))) (by decide) hg); have n6_ := Aside0.mk (Kd.R_over' (by (with_reducible repeat (first | apply Kd.R_alloc | apply Kd.R_drewN | apply Kd.R_drew)); exact (rp5 HO121 BK134)) (Kd.R_typed (by (with_reducible repeat (first | apply Kd.R_alloc | apply Kd.R_drewN | apply Kd.R_drew)); exact (rp5 HO124 BK134))) (by decide) hg); have n7_ := Aside0.mk (Kd.R_over' (by (with_reducible repeat (first | apply Kd.R_alloc | apply Kd.R_drewN | apply Kd.R_drew)); exact (rp5 HO127 BK134)) (Kd.R_typed (by (with_reducible repeat (first | apply Kd.R_alloc | apply Kd.R_drewN | apply Kd.R_drew)); exact (rp5 HO124 BK134))) (by decide) hg); have n8_ := Aside0.mk (Kd.R_over' (by (with_reducible repeat (first | apply Kd.R_alloc | apply Kd.R_drewN | apply Kd.R_drew)); exact (rp5 HO130 BK134)) (Kd.R_typed (by (with_reducible repeat (first | apply Kd.R_alloc | apply Kd.R_drewN | apply Kd.R_drew)); exact (rp5 HO124 BK134))) (by decide) hg); have n9_ := Aside0.mk (Kd.R_over' (by (with_reducible repeat (first | apply Kd.R_alloc | apply Kd.R_drewN | apply Kd.R_drew)); exact (rp5 HO133 BK134)) (Kd.R_typed (by (with_reducible repeat (first | apply Kd.R_alloc | apply Kd.R_drewN | apply Kd.R_drew)); exact (rp5 HO124 BK134))) (by decide) hg); have n10_ := Aside0.mk (blk_grown (g := gb134) (o := .cells #[.slice Ao23 t119.length co23, .slice (some ad135) t122.length co26, .slice Ao27 t125.length co27, .slice Ao28 t128.length co28, .slice Ao29 t131.length co29] 27 (0, 0)) (by (with_reducible repeat (first | refine blk_drewN ?_ _ | refine blk_drew ?_ | refine blk_alloc ?_ _)); refine blk_put (cs := #[.slice Ao23 t119.length co23, .slice (some ad135) t122.length co26, .slice Ao27 t125.length co27, .slice Ao28 t128.length co28, .slice none 0 0]) ?_ 4 _ rfl; (with_reducible repeat (first | refine blk_drewN ?_ _ | refine blk_drew ?_ | refine blk_alloc ?_ _)); refine blk_put (cs := #[.slice Ao23 t119.length co23, .slice (some ad135) t122.length co26, .slice Ao27 t125.length co27, .slice none 0 0, .slice none 0 0]) ?_ 3 _ rfl; (with_reducible repeat (first | refine blk_drewN ?_ _ | refine blk_drew ?_ | refine blk_alloc ?_ _)); refine blk_put (cs := #[.slice Ao23 t119.length co23, .slice (some ad135) t122.length co26, .slice none 0 0, .slice none 0 0, .slice none 0 0]) ?_ 2 _ rfl; (with_reducible repeat (first | refine blk_drewN ?_ _ | refine blk_drew ?_ | refine blk_alloc ?_ _)); refine blk_put (cs := #[.slice Ao23 t119.length co23, .slice none 0 0, .slice none 0 0, .slice none 0 0, .slice none 0 0]) ?_ 1 _ rfl; (with_reducible repeat (first | refine blk_drewN ?_ _ | refine blk_drew ?_ | refine blk_alloc ?_ _)); refine blk_put (cs := #[.slice none 0 0, .slice none 0 0, .slice none 0 0, .slice none 0 0, .slice none 0 0]) ?_ 0 _ rfl; (with_reducible repeat (first | refine blk_drewN ?_ _ | refine blk_drew ?_ | refine blk_alloc ?_ _)); exact BK134.out) hg (Kd.R_ne HO124.out BK134.out (by decide))); have n11_ := Aside0.mk (hb); have n12_ := Aside0.mk (ho); clear BK101; clear HO105; clear HO108; clear HO111; clear HO114; clear HO117; clear HO121; clear HO127; clear HO130; clear HO133; clear BK134; clear HB; clear HO124; have BK101 := n0_; have HO105 := n1_; have HO108 := n2_; have HO111 := n3_; have HO114 := n4_; have HO117 := n5_; have HO121 := n6_; have HO127 := n7_; have HO130 := n8_; have HO133 := n9_; have BK134 := n10_; have HB := n11_; have HO138 := n12_; clear n0_ n1_ n2_ n3_ n4_ n5_ n6_ n7_ n8_ n9_ n10_ n11_ n12_; clear ho hb hg hat; obtain ⟨Ao46, co46, eo46⟩ := Kd.R_slice HO138.out; subst eo46; have hcz47_0 := kc BK134 0 rfl; have hcz47_1 := kc BK134 1 rfl; have hcz47_2 := kc BK134 2 rfl; have hcz47_3 := kc BK134 3 rfl; have hcz47_4 := kc BK134 4 rfl; have hfz47_0 := blk_frozen BK134.out 0; have hfz47_1 := blk_frozen BK134.out 1; have hfz47_2 := blk_frozen BK134.out 2; have hfz47_3 := blk_frozen BK134.out 3; have hfz47_4 := blk_frozen BK134.out 4) | ((with_reducible refine gate_callee (f := 16) rfl ?_); refine goesL_ (some 43) rfl rfl Try.func16 (by kernel_rfl) rfl #[.agg #[.slice Ao23 t119.length co23, .slice Ao46 y136.length co46, .slice Ao27 t125.length co27, .slice Ao28 t128.length co28, .slice Ao29 t131.length co29], .int .i64 8, .int .i64 4] rfl (by (try simp only [List.map_toArray, List.map_cons, List.map_nil]); first | done | rfl | (simp only [List.length_drop, List.length_take]; rfl)) ?_; (with_reducible refine (block_Right.calls _ _ t119 _ _ y136 _ _ t125 _ _ t128 _ _ t131 8 4 false _ ?side1 ?side2 ?side3 ?side4 ?side5 ?side6 ?side7 ?side8 ?side9 ?side10 A35.out).mono ?_); (case side1 => refine (Kd.R_reads' (e := 56) (base := w.heap.size) (ok := fun k_ => (True ∧ some k_ ≠ (.slice Ao13 t103.length co13 : Value).ownBlock)) (n := t119.length) (c := co23) ?_).2.2; exact (by (with_reducible repeat (first | apply Kd.R_alloc | apply Kd.R_drewN | apply Kd.R_drew)); exact (rp1 HO121 BK134))); (case side2 => exact (Kd.R_reads' HO121.out).2.1); (case side3 => refine (Kd.R_reads' (e := 54) (base := w.heap.size) (ok := fun k_ => some k_ ≠ (.slice Ao15 t106.length co15 : Value).ownBlock) (n := y136.length) (c := co46) ?_).2.2; exact (by (with_reducible repeat (first | apply Kd.R_alloc | apply Kd.R_drewN | apply Kd.R_drew)); exact (rp1 HO138 BK134))); (case side4 => exact (Kd.R_reads' HO138.out).2.1); (case side5 => refine (Kd.R_reads' (e := 67) (base := w.heap.size) (ok := fun k_ => (True ∧ some k_ ≠ (.slice Ao16 t109.length co16 : Value).ownBlock)) (n := t125.length) (c := co27) ?_).2.2; exact (by (with_reducible repeat (first | apply Kd.R_alloc | apply Kd.R_drewN | apply Kd.R_drew)); exact (rp1 HO127 BK134))); (case side6 => exact (Kd.R_reads' HO127.out).2.1); (case side7 => refine (Kd.R_reads' (e := 4) (base := w.heap.size) (ok := fun k_ => ((some k_ ≠ (.slice Ao29 t131.length co29 : Value).ownBlock ∧ some k_ ≠ (.slice Ao17 t112.length co17 : Value).ownBlock) ∧ some k_ ≠ (.slice Ao18 t115.length co18 : Value).ownBlock)) (n := t128.length) (c := co28) ?_).2.2; exact (by (with_reducible repeat (first | apply Kd.R_alloc | apply Kd.R_drewN | apply Kd.R_drew)); exact (rp1 HO130 BK134))); (case side8 => exact (Kd.R_reads' HO130.out).2.1); (case side9 => refine (Kd.R_reads' (e := 4) (base := w.heap.size) (ok := fun k_ => ((some k_ ≠ (.slice Ao28 t128.length co28 : Value).ownBlock ∧ some k_ ≠ (.slice Ao17 t112.length co17 : Value).ownBlock) ∧ some k_ ≠ (.slice Ao18 t115.length co18 : Value).ownBlock)) (n := t131.length) (c := co29) ?_).2.2; exact (by (with_reducible repeat (first | apply Kd.R_alloc | apply Kd.R_drewN | apply Kd.R_drew)); exact (rp1 HO133 BK134))); (case side10 => exact (Kd.R_reads' HO133.out).2.1); rintro e w48 ⟨rfl, hb⟩; refine ⟨_, rfl, ?_⟩; have n0_ := Aside0.mk (Kd.R_below (by (with_reducible repeat (first | apply Kd.R_alloc | apply Kd.R_drewN | apply Kd.R_drew)); exact (rp1 HO105 BK134)) hb); have n1_ := Aside0.mk (Kd.R_below (by (with_reducible repeat (first | apply Kd.R_alloc | apply Kd.R_drewN | apply Kd.R_drew)); exact (rp1 HO108 BK134)) hb); have n2_ := Aside0.mk (Kd.R_below (by (with_reducible repeat (first | apply Kd.R_alloc | apply Kd.R_drewN | apply Kd.R_drew)); exact (rp1 HO111 BK134)) hb); have n3_ := Aside0.mk (Kd.R_below (by (with_reducible repeat (first | apply Kd.R_alloc | apply Kd.R_drewN | apply Kd.R_drew)); exact (rp1 HO114 BK134)) hb); have n4_ := Aside0.mk (Kd.R_below (by (with_reducible repeat (first | apply Kd.R_alloc | apply Kd.R_drewN | apply Kd.R_drew)); exact (rp1 HO117 BK134)) hb); have n5_ := Aside0.mk (Kd.R_below (by (with_reducible repeat (first | apply Kd.R_alloc | apply Kd.R_drewN | apply Kd.R_drew)); exact (rp1 HO121 BK134)) hb); have n6_ := Aside0.mk (Kd.R_below (by (with_reducible repeat (first | apply Kd.R_alloc | apply Kd.R_drewN | apply Kd.R_drew)); exact (rp1 HO127 BK134)) hb); have n7_ := Aside0.mk (Kd.R_below (by (with_reducible repeat (first | apply Kd.R_alloc | apply Kd.R_drewN | apply Kd.R_drew)); exact (rp1 HO130 BK134)) hb); have n8_ := Aside0.mk (Kd.R_below (by (with_reducible repeat (first | apply Kd.R_alloc | apply Kd.R_drewN | apply Kd.R_drew)); exact (rp1 HO133 BK134)) hb); have n9_ := Aside0.mk (Kd.R_below (by (with_reducible repeat (first | apply Kd.R_alloc | apply Kd.R_drewN | apply Kd.R_drew)); exact (rp1 HO138 BK134)) hb); have n10_ := Aside0.mk (blk_below (g := gb101) (o := .cells #[.slice Ao13 t103.length co13, .slice Ao15 t106.length co15, .slice Ao16 t109.length co16, .slice Ao17 t112.length co17, .slice Ao18 t115.length co18] 27 (0, 0)) (by (with_reducible repeat (first | refine blk_drewN ?_ _ | refine blk_drew ?_ | refine blk_alloc ?_ _)); refine blk_far ?_ NB101_134.out _; (with_reducible repeat (first | refine blk_drewN ?_ _ | refine blk_drew ?_ | refine blk_alloc ?_ _)); exact BK101.out) hb); have n11_ := Aside0.mk (blk_below (g := gb134) (o := .cells #[.slice Ao23 t119.length co23, .slice Ao46 y136.length co46, .slice Ao27 t125.length co27, .slice Ao28 t128.length co28, .slice Ao29 t131.length co29] 27 (0, 0)) (by (with_reducible repeat (first | refine blk_drewN ?_ _ | refine blk_drew ?_ | refine blk_alloc ?_ _)); refine blk_put (cs := #[.slice Ao23 t119.length co23, .slice (some ad135) t122.length co26, .slice Ao27 t125.length co27, .slice Ao28 t128.length co28, .slice Ao29 t131.length co29]) ?_ 1 _ rfl; (with_reducible repeat (first | refine blk_drewN ?_ _ | refine blk_drew ?_ | refine blk_alloc ?_ _)); exact BK134.out) hb); have n12_ := Aside0.mk (below_step (by repeat (first | (with_reducible first | exact HB.out | apply below_alloc | apply pw_below_drewN | apply below_drew1 | refine below_set ?_ GE101.out | refine below_set ?_ GE134.out) | exact HB.out)) hb); clear HO105; clear HO108; clear HO111; clear HO114; clear HO117; clear HO121; clear HO127; clear HO130; clear HO133; clear HO138; clear BK101; clear BK134; clear HB; have HO105 := n0_; have HO108 := n1_; have HO111 := n2_; have HO114 := n3_; have HO117 := n4_; have HO121 := n5_; have HO127 := n6_; have HO130 := n7_; have HO133 := n8_; have HO138 := n9_; have BK101 := n10_; have BK134 := n11_; have HB := n12_; clear n0_ n1_ n2_ n3_ n4_ n5_ n6_ n7_ n8_ n9_ n10_ n11_ n12_; (try clear hb); (try clear hb2); (try clear hk); (try clear hi)))
        go_meet
        case rel => exact ⟨_, ((rd_T54 t122 (ji31)).f0), (y136), (.slice Ao46 y136.length co46), (by first | rfl | (simp; done) | (simp only [← hji31] <;> (first | rfl | simp)) | (simp [*]; done)), H', ⟨by first | omega | exact Nat.le_refl _⟩, ⟨by (with_reducible repeat (first | apply Kd.R_alloc | apply Kd.R_drewN | apply Kd.R_drew)); exact Kd.R_mono HO105.out (fun _ hk => hk.2)⟩, ⟨by (with_reducible repeat (first | apply Kd.R_alloc | apply Kd.R_drewN | apply Kd.R_drew)); exact Kd.R_mono HO108.out (fun _ hk => hk.2)⟩, ⟨by (with_reducible repeat (first | apply Kd.R_alloc | apply Kd.R_drewN | apply Kd.R_drew)); exact Kd.R_mono HO111.out (fun _ hk => hk.2)⟩, ⟨by (with_reducible repeat (first | apply Kd.R_alloc | apply Kd.R_drewN | apply Kd.R_drew)); exact Kd.R_mono HO114.out (fun _ hk => ⟨hk.1.1, ⟨hk.1.2, hk.2⟩⟩)⟩, ⟨by (with_reducible repeat (first | apply Kd.R_alloc | apply Kd.R_drewN | apply Kd.R_drew)); exact Kd.R_mono HO117.out (fun _ hk => ⟨hk.1.1, ⟨hk.1.2, hk.2⟩⟩)⟩, ⟨by (with_reducible repeat (first | apply Kd.R_alloc | apply Kd.R_drewN | apply Kd.R_drew)); exact Kd.R_mono HO121.out (fun _ hk => hk.2)⟩, ⟨by (with_reducible repeat (first | apply Kd.R_alloc | apply Kd.R_drewN | apply Kd.R_drew)); exact HO138.out⟩, ⟨by (with_reducible repeat (first | apply Kd.R_alloc | apply Kd.R_drewN | apply Kd.R_drew)); exact Kd.R_mono HO127.out (fun _ hk => hk.2)⟩, ⟨by (with_reducible repeat (first | apply Kd.R_alloc | apply Kd.R_drewN | apply Kd.R_drew)); exact Kd.R_mono HO130.out (fun _ hk => ⟨hk.1.2, ⟨hk.2, hk.1.1⟩⟩)⟩, ⟨by (with_reducible repeat (first | apply Kd.R_alloc | apply Kd.R_drewN | apply Kd.R_drew)); exact Kd.R_mono HO133.out (fun _ hk => ⟨hk.1.2, ⟨hk.2, hk.1.1⟩⟩)⟩, ⟨by (with_reducible repeat (first | refine blk_drewN ?_ _ | refine blk_drew ?_ | refine blk_alloc ?_ _)); exact BK101.out⟩, ⟨by (with_reducible repeat (first | refine blk_drewN ?_ _ | refine blk_drew ?_ | refine blk_alloc ?_ _)); exact BK134.out⟩, ⟨by repeat (first | (with_reducible first | exact HB.out | apply below_alloc | apply pw_below_drewN | apply below_drew1 | refine below_set ?_ GE101.out | refine below_set ?_ GE134.out) | exact HB.out)⟩⟩
      ·
       rw [if_neg c34] at H
       exact absurd H (by simp)
     ·
      rw [if_neg c33] at H
      exact absurd H (by simp)
    ·
     rw [if_neg c32] at H
     exact absurd H (by simp)
   ·
    rw [if_neg c30] at H
    have c30b0 : decide (0 < (t122.length : Int)) = false := decide_eq_false c30
    have c30b1 : decide (0 < t122.length) = false := decide_eq_false (by omega)
    clear c30
    (first | rw [c30b0] | rw [c30b1] | (simp only [i64_w, i32_w]; rw [c30b0]) | skip)
    have H' := Aside0.mk H
    clear H
    go_wp2
    go_meet
    case rel => exact ⟨_, (0), (t122), (.slice Ao26 t122.length co26), (by first | rfl | (simp; done) | (simp [*]; done)), H', ⟨by first | omega | exact Nat.le_refl _⟩, ⟨by (with_reducible repeat (first | apply Kd.R_alloc | apply Kd.R_drewN | apply Kd.R_drew)); exact Kd.R_mono (Kd.R_far (p := ⟨gb134, 4, none⟩) (Kd.R_far (p := ⟨gb134, 3, none⟩) (Kd.R_far (p := ⟨gb134, 2, none⟩) (Kd.R_far (p := ⟨gb134, 1, none⟩) (Kd.R_far (p := ⟨gb134, 0, none⟩) (Kd.R_types HO105.out BK134.out (by decide)) (fun _ hk => hk.2) (.slice Ao23 t119.length co23)) (fun _ hk => hk.2) (.slice Ao26 t122.length co26)) (fun _ hk => hk.2) (.slice Ao27 t125.length co27)) (fun _ hk => hk.2) (.slice Ao28 t128.length co28)) (fun _ hk => hk.2) (.slice Ao29 t131.length co29)) (fun _ hk => hk.1.2)⟩, ⟨by (with_reducible repeat (first | apply Kd.R_alloc | apply Kd.R_drewN | apply Kd.R_drew)); exact Kd.R_mono (Kd.R_far (p := ⟨gb134, 4, none⟩) (Kd.R_far (p := ⟨gb134, 3, none⟩) (Kd.R_far (p := ⟨gb134, 2, none⟩) (Kd.R_far (p := ⟨gb134, 1, none⟩) (Kd.R_far (p := ⟨gb134, 0, none⟩) (Kd.R_types HO108.out BK134.out (by decide)) (fun _ hk => hk.2) (.slice Ao23 t119.length co23)) (fun _ hk => hk.2) (.slice Ao26 t122.length co26)) (fun _ hk => hk.2) (.slice Ao27 t125.length co27)) (fun _ hk => hk.2) (.slice Ao28 t128.length co28)) (fun _ hk => hk.2) (.slice Ao29 t131.length co29)) (fun _ hk => hk.1.2)⟩, ⟨by (with_reducible repeat (first | apply Kd.R_alloc | apply Kd.R_drewN | apply Kd.R_drew)); exact Kd.R_mono (Kd.R_far (p := ⟨gb134, 4, none⟩) (Kd.R_far (p := ⟨gb134, 3, none⟩) (Kd.R_far (p := ⟨gb134, 2, none⟩) (Kd.R_far (p := ⟨gb134, 1, none⟩) (Kd.R_far (p := ⟨gb134, 0, none⟩) (Kd.R_types HO111.out BK134.out (by decide)) (fun _ hk => hk.2) (.slice Ao23 t119.length co23)) (fun _ hk => hk.2) (.slice Ao26 t122.length co26)) (fun _ hk => hk.2) (.slice Ao27 t125.length co27)) (fun _ hk => hk.2) (.slice Ao28 t128.length co28)) (fun _ hk => hk.2) (.slice Ao29 t131.length co29)) (fun _ hk => hk.1.2)⟩, ⟨by (with_reducible repeat (first | apply Kd.R_alloc | apply Kd.R_drewN | apply Kd.R_drew)); exact Kd.R_mono (Kd.R_far (p := ⟨gb134, 4, none⟩) (Kd.R_far (p := ⟨gb134, 3, none⟩) (Kd.R_far (p := ⟨gb134, 2, none⟩) (Kd.R_far (p := ⟨gb134, 1, none⟩) (Kd.R_far (p := ⟨gb134, 0, none⟩) (Kd.R_types HO114.out BK134.out (by decide)) (fun _ hk => hk.2) (.slice Ao23 t119.length co23)) (fun _ hk => hk.2) (.slice Ao26 t122.length co26)) (fun _ hk => hk.2) (.slice Ao27 t125.length co27)) (fun _ hk => hk.2) (.slice Ao28 t128.length co28)) (fun _ hk => hk.2) (.slice Ao29 t131.length co29)) (fun _ hk => ⟨hk.1.1.1, ⟨hk.1.1.2, hk.1.2⟩⟩)⟩, ⟨by (with_reducible repeat (first | apply Kd.R_alloc | apply Kd.R_drewN | apply Kd.R_drew)); exact Kd.R_mono (Kd.R_far (p := ⟨gb134, 4, none⟩) (Kd.R_far (p := ⟨gb134, 3, none⟩) (Kd.R_far (p := ⟨gb134, 2, none⟩) (Kd.R_far (p := ⟨gb134, 1, none⟩) (Kd.R_far (p := ⟨gb134, 0, none⟩) (Kd.R_types HO117.out BK134.out (by decide)) (fun _ hk => hk.2) (.slice Ao23 t119.length co23)) (fun _ hk => hk.2) (.slice Ao26 t122.length co26)) (fun _ hk => hk.2) (.slice Ao27 t125.length co27)) (fun _ hk => hk.2) (.slice Ao28 t128.length co28)) (fun _ hk => hk.2) (.slice Ao29 t131.length co29)) (fun _ hk => ⟨hk.1.1.1, ⟨hk.1.1.2, hk.1.2⟩⟩)⟩, ⟨by (with_reducible repeat (first | apply Kd.R_alloc | apply Kd.R_drewN | apply Kd.R_drew)); exact Kd.R_mono (Kd.R_far (p := ⟨gb134, 4, none⟩) (Kd.R_far (p := ⟨gb134, 3, none⟩) (Kd.R_far (p := ⟨gb134, 2, none⟩) (Kd.R_far (p := ⟨gb134, 1, none⟩) (Kd.R_far (p := ⟨gb134, 0, none⟩) (Kd.R_types HO121.out BK134.out (by decide)) (fun _ hk => hk.2) (.slice Ao23 t119.length co23)) (fun _ hk => hk.2) (.slice Ao26 t122.length co26)) (fun _ hk => hk.2) (.slice Ao27 t125.length co27)) (fun _ hk => hk.2) (.slice Ao28 t128.length co28)) (fun _ hk => hk.2) (.slice Ao29 t131.length co29)) (fun _ hk => hk.1.2)⟩, ⟨by (with_reducible repeat (first | apply Kd.R_alloc | apply Kd.R_drewN | apply Kd.R_drew)); exact Kd.R_mono (Kd.R_far (p := ⟨gb134, 4, none⟩) (Kd.R_far (p := ⟨gb134, 3, none⟩) (Kd.R_far (p := ⟨gb134, 2, none⟩) (Kd.R_far (p := ⟨gb134, 1, none⟩) (Kd.R_far (p := ⟨gb134, 0, none⟩) (Kd.R_types HO124.out BK134.out (by decide)) (fun _ hk => hk.2) (.slice Ao23 t119.length co23)) (fun _ hk => hk.2) (.slice Ao26 t122.length co26)) (fun _ hk => hk.2) (.slice Ao27 t125.length co27)) (fun _ hk => hk.2) (.slice Ao28 t128.length co28)) (fun _ hk => hk.2) (.slice Ao29 t131.length co29)) (fun _ hk => hk.1.2)⟩, ⟨by (with_reducible repeat (first | apply Kd.R_alloc | apply Kd.R_drewN | apply Kd.R_drew)); exact Kd.R_mono (Kd.R_far (p := ⟨gb134, 4, none⟩) (Kd.R_far (p := ⟨gb134, 3, none⟩) (Kd.R_far (p := ⟨gb134, 2, none⟩) (Kd.R_far (p := ⟨gb134, 1, none⟩) (Kd.R_far (p := ⟨gb134, 0, none⟩) (Kd.R_types HO127.out BK134.out (by decide)) (fun _ hk => hk.2) (.slice Ao23 t119.length co23)) (fun _ hk => hk.2) (.slice Ao26 t122.length co26)) (fun _ hk => hk.2) (.slice Ao27 t125.length co27)) (fun _ hk => hk.2) (.slice Ao28 t128.length co28)) (fun _ hk => hk.2) (.slice Ao29 t131.length co29)) (fun _ hk => hk.1.2)⟩, ⟨by (with_reducible repeat (first | apply Kd.R_alloc | apply Kd.R_drewN | apply Kd.R_drew)); exact Kd.R_mono (Kd.R_far (p := ⟨gb134, 4, none⟩) (Kd.R_far (p := ⟨gb134, 3, none⟩) (Kd.R_far (p := ⟨gb134, 2, none⟩) (Kd.R_far (p := ⟨gb134, 1, none⟩) (Kd.R_far (p := ⟨gb134, 0, none⟩) (Kd.R_types HO130.out BK134.out (by decide)) (fun _ hk => hk.2) (.slice Ao23 t119.length co23)) (fun _ hk => hk.2) (.slice Ao26 t122.length co26)) (fun _ hk => hk.2) (.slice Ao27 t125.length co27)) (fun _ hk => hk.2) (.slice Ao28 t128.length co28)) (fun _ hk => hk.2) (.slice Ao29 t131.length co29)) (fun _ hk => ⟨hk.1.1.2, ⟨hk.1.2, hk.1.1.1⟩⟩)⟩, ⟨by (with_reducible repeat (first | apply Kd.R_alloc | apply Kd.R_drewN | apply Kd.R_drew)); exact Kd.R_mono (Kd.R_far (p := ⟨gb134, 4, none⟩) (Kd.R_far (p := ⟨gb134, 3, none⟩) (Kd.R_far (p := ⟨gb134, 2, none⟩) (Kd.R_far (p := ⟨gb134, 1, none⟩) (Kd.R_far (p := ⟨gb134, 0, none⟩) (Kd.R_types HO133.out BK134.out (by decide)) (fun _ hk => hk.2) (.slice Ao23 t119.length co23)) (fun _ hk => hk.2) (.slice Ao26 t122.length co26)) (fun _ hk => hk.2) (.slice Ao27 t125.length co27)) (fun _ hk => hk.2) (.slice Ao28 t128.length co28)) (fun _ hk => hk.2) (.slice Ao29 t131.length co29)) (fun _ hk => ⟨hk.1.1.2, ⟨hk.1.2, hk.1.1.1⟩⟩)⟩, ⟨by (with_reducible repeat (first | refine blk_drewN ?_ _ | refine blk_drew ?_ | refine blk_alloc ?_ _)); refine blk_far ?_ NB101_134.out _; (with_reducible repeat (first | refine blk_drewN ?_ _ | refine blk_drew ?_ | refine blk_alloc ?_ _)); refine blk_far ?_ NB101_134.out _; (with_reducible repeat (first | refine blk_drewN ?_ _ | refine blk_drew ?_ | refine blk_alloc ?_ _)); refine blk_far ?_ NB101_134.out _; (with_reducible repeat (first | refine blk_drewN ?_ _ | refine blk_drew ?_ | refine blk_alloc ?_ _)); refine blk_far ?_ NB101_134.out _; (with_reducible repeat (first | refine blk_drewN ?_ _ | refine blk_drew ?_ | refine blk_alloc ?_ _)); refine blk_far ?_ NB101_134.out _; (with_reducible repeat (first | refine blk_drewN ?_ _ | refine blk_drew ?_ | refine blk_alloc ?_ _)); exact BK101.out⟩, ⟨by (with_reducible repeat (first | refine blk_drewN ?_ _ | refine blk_drew ?_ | refine blk_alloc ?_ _)); refine blk_put (cs := #[.slice Ao23 t119.length co23, .slice Ao26 t122.length co26, .slice Ao27 t125.length co27, .slice Ao28 t128.length co28, .slice none 0 0]) ?_ 4 _ rfl; (with_reducible repeat (first | refine blk_drewN ?_ _ | refine blk_drew ?_ | refine blk_alloc ?_ _)); refine blk_put (cs := #[.slice Ao23 t119.length co23, .slice Ao26 t122.length co26, .slice Ao27 t125.length co27, .slice none 0 0, .slice none 0 0]) ?_ 3 _ rfl; (with_reducible repeat (first | refine blk_drewN ?_ _ | refine blk_drew ?_ | refine blk_alloc ?_ _)); refine blk_put (cs := #[.slice Ao23 t119.length co23, .slice Ao26 t122.length co26, .slice none 0 0, .slice none 0 0, .slice none 0 0]) ?_ 2 _ rfl; (with_reducible repeat (first | refine blk_drewN ?_ _ | refine blk_drew ?_ | refine blk_alloc ?_ _)); refine blk_put (cs := #[.slice Ao23 t119.length co23, .slice none 0 0, .slice none 0 0, .slice none 0 0, .slice none 0 0]) ?_ 1 _ rfl; (with_reducible repeat (first | refine blk_drewN ?_ _ | refine blk_drew ?_ | refine blk_alloc ?_ _)); refine blk_put (cs := #[.slice none 0 0, .slice none 0 0, .slice none 0 0, .slice none 0 0, .slice none 0 0]) ?_ 0 _ rfl; (with_reducible repeat (first | refine blk_drewN ?_ _ | refine blk_drew ?_ | refine blk_alloc ?_ _)); exact BK134.out⟩, ⟨by repeat (first | (with_reducible first | exact HB.out | apply below_alloc | apply pw_below_drewN | apply below_drew1 | refine below_set ?_ GE101.out | refine below_set ?_ GE134.out) | exact HB.out)⟩⟩
  case rest =>
   clear HC8
   try clear c1
   try clear p1
   try clear q1
   try clear hx1
   try clear c2
   try clear p2
   try clear c3
   try clear c4
   try clear c6
   try clear p6
   try clear c7
   try clear c11
   try clear c12
   try clear p13
   try clear q13
   try clear hx13
   try clear c16
   try clear c24
   try clear c30
   try clear c30b0
   try clear c30b1
   try clear c32
   try clear c32b0
   try clear c33
   try clear c33b0
   try clear c34
   try clear c36
   try clear c37
   try clear c43
   try clear hcz11_0
   try clear hcz11_1
   try clear hcz11_2
   try clear hcz11_3
   try clear hcz11_4
   try clear hcz14_0
   try clear hcz14_1
   try clear hcz14_2
   try clear hcz14_3
   try clear hcz14_4
   try clear hcz20_0
   try clear hcz20_1
   try clear hcz20_2
   try clear hcz20_3
   try clear hcz20_4
   try clear hcz25_0
   try clear hcz25_1
   try clear hcz25_2
   try clear hcz25_3
   try clear hcz25_4
   try clear hcz38_0
   try clear hcz38_1
   try clear hcz38_2
   try clear hcz38_3
   try clear hcz38_4
   try clear hcz41_0
   try clear hcz41_1
   try clear hcz41_2
   try clear hcz41_3
   try clear hcz41_4
   try clear hcz44_0
   try clear hcz44_1
   try clear hcz44_2
   try clear hcz44_3
   try clear hcz44_4
   try clear hcz47_0
   try clear hcz47_1
   try clear hcz47_2
   try clear hcz47_3
   try clear hcz47_4
   try clear hfz11_0
   try clear hfz11_1
   try clear hfz11_2
   try clear hfz11_3
   try clear hfz11_4
   try clear hfz14_0
   try clear hfz14_1
   try clear hfz14_2
   try clear hfz14_3
   try clear hfz14_4
   try clear hfz20_0
   try clear hfz20_1
   try clear hfz20_2
   try clear hfz20_3
   try clear hfz20_4
   try clear hfz25_0
   try clear hfz25_1
   try clear hfz25_2
   try clear hfz25_3
   try clear hfz25_4
   try clear hfz38_0
   try clear hfz38_1
   try clear hfz38_2
   try clear hfz38_3
   try clear hfz38_4
   try clear hfz41_0
   try clear hfz41_1
   try clear hfz41_2
   try clear hfz41_3
   try clear hfz41_4
   try clear hfz44_0
   try clear hfz44_1
   try clear hfz44_2
   try clear hfz44_3
   try clear hfz44_4
   try clear hfz47_0
   try clear hfz47_1
   try clear hfz47_2
   try clear hfz47_3
   try clear hfz47_4
   try clear hx135_0
   try clear hx135_1
   try clear p135
   try clear q135
   obtain ⟨kq, x8_7, x135001_7, u135001, rfl, HA, HJ7, HO_102000, HO_102001, HO_102002, HO_102003, HO_102004, HO_135000, HO_135001, HO_135002, HO_135003, HO_135004, BK101, BK134, HB⟩ := hcut
   cases kq with
   | zero => exact absurd HA.out (by simp [longcaselaw06_BlockRules.j0])
   | succ kj7 =>
    have H := HA.out
    clear HA
    simp only [longcaselaw06_BlockRules.j0] at H
    replace H := Option.bind_eq_some_iff.mp H
    obtain ⟨⟨t140, t143, t146, t149, t152⟩, A490, H⟩ := H
    try dsimp only at H
    have A49 := Aside0.mk A490
    clear A490
    have HC50 := Aside0.mk H
    clear H
    have hnb51 := NB101_134.out
    have hnc51 := NB134_101.out
    have hcz52_0 := kc BK101 0 rfl
    have hcz52_1 := kc BK101 1 rfl
    have hcz52_2 := kc BK101 2 rfl
    have hcz52_3 := kc BK101 3 rfl
    have hcz52_4 := kc BK101 4 rfl
    have hfz52_0 := blk_frozen BK101.out 0
    have hfz52_1 := blk_frozen BK101.out 1
    have hfz52_2 := blk_frozen BK101.out 2
    have hfz52_3 := blk_frozen BK101.out 3
    have hfz52_4 := blk_frozen BK101.out 4
    go_upto_if 47 with (first | ((with_reducible refine gate_callee (f := 12) rfl ?_); refine goesL_ (some 45) rfl rfl Try.func12 (by kernel_rfl) rfl #[.agg #[.slice Ao13 t103.length co13, .slice Ao15 t106.length co15, .slice Ao16 t109.length co16, .slice Ao17 t112.length co17, .slice Ao18 t115.length co18]] rfl (by (try simp only [List.map_toArray, List.map_cons, List.map_nil]); first | done | rfl | (simp only [List.length_drop, List.length_take]; rfl)) ?_; (with_reducible refine (longcaselaw06_few.calls _ _ t103 _ _ t106 _ _ t109 _ _ t112 _ _ t115 t140 t143 t146 t149 t152 _ ?side1 ?side2 ?side3 ?side4 ?side5 ?side6 ?side7 ?side8 ?side9 ?side10 A49.out).mono ?_); (case side1 => repeat (first | exact (Kd.R_reads' HO_102000.out).2.2 | (with_reducible refine Kd.C_alloc ?_ _) | (with_reducible refine Kd.C_drewN ?_ _) | (with_reducible refine Kd.C_drew ?_))); (case side2 => exact (Kd.R_reads' HO_102000.out).2.1); (case side3 => repeat (first | exact (Kd.R_reads' HO_102001.out).2.2 | (with_reducible refine Kd.C_alloc ?_ _) | (with_reducible refine Kd.C_drewN ?_ _) | (with_reducible refine Kd.C_drew ?_))); (case side4 => exact (Kd.R_reads' HO_102001.out).2.1); (case side5 => repeat (first | exact (Kd.R_reads' HO_102002.out).2.2 | (with_reducible refine Kd.C_alloc ?_ _) | (with_reducible refine Kd.C_drewN ?_ _) | (with_reducible refine Kd.C_drew ?_))); (case side6 => exact (Kd.R_reads' HO_102002.out).2.1); (case side7 => repeat (first | exact (Kd.R_reads' HO_102003.out).2.2 | (with_reducible refine Kd.C_alloc ?_ _) | (with_reducible refine Kd.C_drewN ?_ _) | (with_reducible refine Kd.C_drew ?_))); (case side8 => exact (Kd.R_reads' HO_102003.out).2.1); (case side9 => repeat (first | exact (Kd.R_reads' HO_102004.out).2.2 | (with_reducible refine Kd.C_alloc ?_ _) | (with_reducible refine Kd.C_drewN ?_ _) | (with_reducible refine Kd.C_drew ?_))); (case side10 => exact (Kd.R_reads' HO_102004.out).2.1); rintro e w53 ⟨v141, v144, v147, v150, v153, rfl, ho0, ho1, ho2, ho3, ho4, hb⟩; refine ⟨_, rfl, ?_⟩; have n0_ := Aside0.mk (Kd.R_elder' (kr HO_102000) (Kd.R_base ho0) hb); have n1_ := Aside0.mk (Kd.R_elder' (kr HO_102001) (Kd.R_base ho1) hb); have n2_ := Aside0.mk (Kd.R_elder' (kr HO_102002) (Kd.R_base ho2) hb); have n3_ := Aside0.mk (Kd.R_mono (Kd.R_told (Kd.R_told (Kd.R_old (kr HO_102003) hb) (Kd.R_base ho3)) (Kd.R_base ho4)) (fun _ h_ => h_.1)); have n4_ := Aside0.mk (Kd.R_mono (Kd.R_told (Kd.R_told (Kd.R_old (kr HO_102004) hb) (Kd.R_base ho3)) (Kd.R_base ho4)) (fun _ h_ => h_.1)); have n5_ := Aside0.mk (Kd.R_elder' (kr HO_135000) (Kd.R_base ho0) hb); have n6_ := Aside0.mk (Kd.R_elder' (kr HO_135001) (Kd.R_base ho1) hb); have n7_ := Aside0.mk (Kd.R_elder' (kr HO_135002) (Kd.R_base ho2) hb); have n8_ := Aside0.mk (Kd.R_mono (Kd.R_told (Kd.R_told (Kd.R_old (kr HO_135003) hb) (Kd.R_base ho3)) (Kd.R_base ho4)) (fun _ h_ => h_.1)); have n9_ := Aside0.mk (Kd.R_mono (Kd.R_told (Kd.R_told (Kd.R_old (kr HO_135004) hb) (Kd.R_base ho3)) (Kd.R_base ho4)) (fun _ h_ => h_.1)); have n10_ := Aside0.mk (Kd.R_lower (Kd.R_new' (Kd.R_new' ho0 (Kd.R_lt (kr HO_102000))) (Kd.R_lt (kr HO_135000))) (below_size (by repeat (first | (with_reducible first | exact HB.out | apply below_alloc | apply pw_below_drewN | apply below_drew1 | refine below_set ?_ GE101.out | refine below_set ?_ GE134.out) | exact HB.out)))); have n11_ := Aside0.mk (Kd.R_lower (Kd.R_new' (Kd.R_new' ho1 (Kd.R_lt (kr HO_102001))) (Kd.R_lt (kr HO_135001))) (below_size (by repeat (first | (with_reducible first | exact HB.out | apply below_alloc | apply pw_below_drewN | apply below_drew1 | refine below_set ?_ GE101.out | refine below_set ?_ GE134.out) | exact HB.out)))); have n12_ := Aside0.mk (Kd.R_lower (Kd.R_new' (Kd.R_new' ho2 (Kd.R_lt (kr HO_102002))) (Kd.R_lt (kr HO_135002))) (below_size (by repeat (first | (with_reducible first | exact HB.out | apply below_alloc | apply pw_below_drewN | apply below_drew1 | refine below_set ?_ GE101.out | refine below_set ?_ GE134.out) | exact HB.out)))); have n13_ := Aside0.mk (Kd.R_lower (Kd.R_new' (Kd.R_new' (Kd.R_new' (Kd.R_new' ho3 (Kd.R_lt (kr HO_102003))) (Kd.R_lt (kr HO_102004))) (Kd.R_lt (kr HO_135003))) (Kd.R_lt (kr HO_135004))) (below_size (by repeat (first | (with_reducible first | exact HB.out | apply below_alloc | apply pw_below_drewN | apply below_drew1 | refine below_set ?_ GE101.out | refine below_set ?_ GE134.out) | exact HB.out)))); have n14_ := Aside0.mk (Kd.R_lower (Kd.R_new' (Kd.R_new' (Kd.R_new' (Kd.R_new' ho4 (Kd.R_lt (kr HO_102003))) (Kd.R_lt (kr HO_102004))) (Kd.R_lt (kr HO_135003))) (Kd.R_lt (kr HO_135004))) (below_size (by repeat (first | (with_reducible first | exact HB.out | apply below_alloc | apply pw_below_drewN | apply below_drew1 | refine below_set ?_ GE101.out | refine below_set ?_ GE134.out) | exact HB.out)))); have n15_ := kbb BK101 hb; have n16_ := kbb BK134 hb; have n17_ := Aside0.mk (below_step (by repeat (first | (with_reducible first | exact HB.out | apply below_alloc | apply pw_below_drewN | apply below_drew1 | refine below_set ?_ GE101.out | refine below_set ?_ GE134.out) | exact HB.out)) hb); clear HO_102000; clear HO_102001; clear HO_102002; clear HO_102003; clear HO_102004; clear HO_135000; clear HO_135001; clear HO_135002; clear HO_135003; clear HO_135004; clear BK101; clear BK134; clear HB; have HO_102000 := n0_; have HO_102001 := n1_; have HO_102002 := n2_; have HO_102003 := n3_; have HO_102004 := n4_; have HO_135000 := n5_; have HO_135001 := n6_; have HO_135002 := n7_; have HO_135003 := n8_; have HO_135004 := n9_; have HO142 := n10_; have HO145 := n11_; have HO148 := n12_; have HO151 := n13_; have HO154 := n14_; have BK101 := n15_; have BK134 := n16_; have HB := n17_; clear n0_ n1_ n2_ n3_ n4_ n5_ n6_ n7_ n8_ n9_ n10_ n11_ n12_ n13_ n14_ n15_ n16_ n17_; (try clear hb); (try clear hb2); (try clear hk); (try clear hi); (try clear ho0); (try clear ho1); (try clear ho2); (try clear ho3); (try clear ho4); obtain ⟨Ao54, co54, eo54⟩ := Kd.R_slice HO142.out; subst eo54; have hcz55_0 := kc BK134 0 rfl; have hcz55_1 := kc BK134 1 rfl; have hcz55_2 := kc BK134 2 rfl; have hcz55_3 := kc BK134 3 rfl; have hcz55_4 := kc BK134 4 rfl; have hfz55_0 := blk_frozen BK134.out 0; have hfz55_1 := blk_frozen BK134.out 1; have hfz55_2 := blk_frozen BK134.out 2; have hfz55_3 := blk_frozen BK134.out 3; have hfz55_4 := blk_frozen BK134.out 4; obtain ⟨Ao56, co56, eo56⟩ := Kd.R_slice HO145.out; subst eo56; obtain ⟨Ao57, co57, eo57⟩ := Kd.R_slice HO148.out; subst eo57; obtain ⟨Ao58, co58, eo58⟩ := Kd.R_slice HO151.out; subst eo58; obtain ⟨Ao59, co59, eo59⟩ := Kd.R_slice HO154.out; subst eo59))
    (try simp only [Act.put, List.setIfInBounds_toArray, List.set_cons_zero, List.set_cons_succ])
    go_cut [] (fun wc => ∃ (kq : Nat) (x135001_49 : List (S54)) (u135001 : Value), Aside0 (longcaselaw06_BlockRules.j1 kq t102 (t103.length : Int) t103 t106 t109 t112 t115 = some r) ∧ Aside0 (kq ≤ kj7) ∧ Aside0 (Kd.R k56 56 wc w.heap.size (fun k_ => some k_ ≠ ((.slice Ao54 t140.length co54) : Value).ownBlock) (.slice Ao13 t103.length co13) t103) ∧ Aside0 (Kd.R k54 54 wc w.heap.size (fun k_ => some k_ ≠ (u135001 : Value).ownBlock) (.slice Ao15 t106.length co15) t106) ∧ Aside0 (Kd.R k67 67 wc w.heap.size (fun k_ => some k_ ≠ ((.slice Ao57 t146.length co57) : Value).ownBlock) (.slice Ao16 t109.length co16) t109) ∧ Aside0 (Kd.R Kd.bool 4 wc w.heap.size (fun k_ => some k_ ≠ ((.slice Ao18 t115.length co18) : Value).ownBlock ∧ some k_ ≠ ((.slice Ao58 t149.length co58) : Value).ownBlock ∧ some k_ ≠ ((.slice Ao59 t152.length co59) : Value).ownBlock) (.slice Ao17 t112.length co17) t112) ∧ Aside0 (Kd.R Kd.bool 4 wc w.heap.size (fun k_ => some k_ ≠ ((.slice Ao17 t112.length co17) : Value).ownBlock ∧ some k_ ≠ ((.slice Ao58 t149.length co58) : Value).ownBlock ∧ some k_ ≠ ((.slice Ao59 t152.length co59) : Value).ownBlock) (.slice Ao18 t115.length co18) t115) ∧ Aside0 (Kd.R k56 56 wc w.heap.size (fun k_ => some k_ ≠ ((.slice Ao13 t103.length co13) : Value).ownBlock) (.slice Ao54 t140.length co54) t140) ∧ Aside0 (Kd.R k54 54 wc w.heap.size (fun k_ => some k_ ≠ ((.slice Ao15 t106.length co15) : Value).ownBlock) u135001 x135001_49) ∧ Aside0 (Kd.R k67 67 wc w.heap.size (fun k_ => some k_ ≠ ((.slice Ao16 t109.length co16) : Value).ownBlock) (.slice Ao57 t146.length co57) t146) ∧ Aside0 (Kd.R Kd.bool 4 wc w.heap.size (fun k_ => some k_ ≠ ((.slice Ao17 t112.length co17) : Value).ownBlock ∧ some k_ ≠ ((.slice Ao18 t115.length co18) : Value).ownBlock ∧ some k_ ≠ ((.slice Ao59 t152.length co59) : Value).ownBlock) (.slice Ao58 t149.length co58) t149) ∧ Aside0 (Kd.R Kd.bool 4 wc w.heap.size (fun k_ => some k_ ≠ ((.slice Ao17 t112.length co17) : Value).ownBlock ∧ some k_ ≠ ((.slice Ao18 t115.length co18) : Value).ownBlock ∧ some k_ ≠ ((.slice Ao58 t149.length co58) : Value).ownBlock) (.slice Ao59 t152.length co59) t152) ∧ Aside0 (wc.heap[gb101]? = some (.cells #[(.slice Ao13 t103.length co13), (.slice Ao15 t106.length co15), (.slice Ao16 t109.length co16), (.slice Ao17 t112.length co17), (.slice Ao18 t115.length co18)] 27 (0, 0))) ∧ Aside0 (wc.heap[gb134]? = some (.cells #[(.slice Ao54 t140.length co54), u135001, (.slice Ao57 t146.length co57), (.slice Ao58 t149.length co58), (.slice Ao59 t152.length co59)] 27 (0, 0))) ∧ Aside0 (Below w.heap.size w wc))
    case first =>
     have H := HC50.out
     clear HC50
     by_cases c60 : x8_7 < 9223372036854775807
     ·
      rw [if_pos c60] at H
      have c60b0 : decide (x8_7 < 9223372036854775807) = true := decide_eq_true c60
      clear c60
      (first | rw [c60b0] | rw [c60b1] | (simp only [i64_w, i32_w]; rw [c60b0]) | skip)
      by_cases c61 : t143.length < 8796093022208
      ·
       rw [if_pos c61] at H
       have LMc61 := Aside0.mk c61
       clear c61
       obtain ⟨y155, hy155⟩ : ∃ y_ : List (S54), y_ = (t143 ++ [(⟨wrap64 (x8_7 + 1), Go.bits .and .i64 a1 511⟩ : S54)]) := ⟨_, rfl⟩
       replace H : ((block_Right.f t140 y155 t146 t149 t152 8 4).bind fun t158 => (if (t158 != (decide ((Go.bits .and .i64 a1 511) < (t103.length : Int)))) = true then (some false) else (longcaselaw06_BlockRules.j1 kj7 t102 (t103.length : Int) t103 t106 t109 t112 t115))) = some r := by first | (rw [hy155]; with_reducible exact H) | (have H2_ := (Option.bind_some _ _).symm.trans H; rw [hy155]; with_reducible exact H2_) | (have H2_ := (Option.bind_some _ _).symm.trans H; with_reducible exact H2_) | with_reducible exact H | (rw [hy155]; exact H) | exact H
       have Ny155 := Aside0.mk hy155
       clear hy155
       replace H := Option.bind_eq_some_iff.mp H
       obtain ⟨t158, A620, H⟩ := H
       replace H : (if (t158 != (decide ((Go.bits .and .i64 a1 511) < (t103.length : Int)))) = true then (some false) else (longcaselaw06_BlockRules.j1 kj7 t102 (t103.length : Int) t103 t106 t109 t112 t115)) = some r := H
       have A62 := Aside0.mk A620
       clear A620
       by_cases c63 : (t158 != (decide ((Go.bits .and .i64 a1 511) < (t103.length : Int)))) = true
       ·
        rw [if_pos c63] at H
        have c63b0 : (t158 != (decide ((Go.bits .and .i64 a1 511) < (t103.length : Int)))) = true := c63
        (try (have c63b1 : decide (t158 = (decide ((Go.bits .and .i64 a1 511) < (t103.length : Int)))) = false := by simpa using c63))
        (try (have c63b2 : (t158 == (decide ((Go.bits .and .i64 a1 511) < (t103.length : Int)))) = false := by simpa using c63))
        (try (have c63b3 : ¬ (t158 = (decide ((Go.bits .and .i64 a1 511) < (t103.length : Int)))) := by simpa using c63))
        clear c63
        obtain rfl := Option.some.inj H
        have hnb64 := NB134_101.out
        have hnc64 := NB101_134.out
        have hcz65_0 := kc BK134 0 rfl
        have hcz65_1 := kc BK134 1 rfl
        have hcz65_2 := kc BK134 2 rfl
        have hcz65_3 := kc BK134 3 rfl
        have hcz65_4 := kc BK134 4 rfl
        have hfz65_0 := blk_frozen BK134.out 0
        have hfz65_1 := blk_frozen BK134.out 1
        have hfz65_2 := blk_frozen BK134.out 2
        have hfz65_3 := blk_frozen BK134.out 3
        have hfz65_4 := blk_frozen BK134.out 4
        go_wp2_with (first | ((with_reducible refine gate_builtin (b := .append) (xs := #[.tmp 51, .tmp 56]) rfl ?_); at_builtin; refine Kd.R_append k54 (w0 := w) w.heap.size rfl (.tmp 51) (.tmp 56) 23 54 (.agg #[(.int .i64 0), (.int .i64 0)]) 16 rfl Try.underlying23 info54 rfl (by decide) (by omega) (.slice Ao56 t143.length co56) t143 (⟨wrap64 (x8_7 + 1), Go.bits .and .i64 a1 511⟩ : S54) [.int .i64 (wrap64 (x8_7 + 1)), .int .i64 (Go.bits .and .i64 a1 511)] (fun k_ => some k_ ≠ (.slice Ao15 t106.length co15 : Value).ownBlock ∧ some k_ ≠ (u135001 : Value).ownBlock) (fun _ => False) rfl (by first | (go_simp; done) | (go_simp; rfl)) ?aP (fun _ hk => hk.elim) ?aF ?aO ?aB ?aS ?aL ?_; (case aP => exact k54_mkM _ _ _ (⟨wrap64 (x8_7 + 1), Go.bits .and .i64 a1 511⟩ : S54)); (case aB => exact (by repeat (first | (with_reducible first | exact HB.out | apply below_alloc | apply pw_below_drewN | apply below_drew1 | refine below_set ?_ GE101.out | refine below_set ?_ GE134.out) | exact HB.out))); (case aF => exact (fun k_ hk => ⟨Kd.fresh' (Kd.R_lt (by (with_reducible repeat (first | apply Kd.R_alloc | apply Kd.R_drewN | apply Kd.R_drew)); exact (rp5 HO_102001 BK134))) k_ hk, Kd.fresh' (Kd.R_lt (by (with_reducible repeat (first | apply Kd.R_alloc | apply Kd.R_drewN | apply Kd.R_drew)); exact (rp5 HO_135001 BK134))) k_ hk⟩)); (case aO => exact (by (with_reducible repeat (first | apply Kd.R_alloc | apply Kd.R_drewN | apply Kd.R_drew)); exact Kd.R_mono (Kd.R_far (p := ⟨gb134, 4, none⟩) (Kd.R_far (p := ⟨gb134, 3, none⟩) (Kd.R_far (p := ⟨gb134, 2, none⟩) (Kd.R_far (p := ⟨gb134, 1, none⟩) (Kd.R_far (p := ⟨gb134, 0, none⟩) (Kd.R_types HO145.out BK134.out (by decide)) (fun _ hk => hk.2) (.slice Ao54 t140.length co54)) (fun _ hk => hk.2) (.slice Ao56 t143.length co56)) (fun _ hk => hk.2) (.slice Ao57 t146.length co57)) (fun _ hk => hk.2) (.slice Ao58 t149.length co58)) (fun _ hk => hk.2) (.slice Ao59 t152.length co59)) (fun _ hk => ⟨hk.1.1.2, hk.1.2⟩))); (case aS => exact (below_size (by repeat (first | (with_reducible first | exact HB.out | apply below_alloc | apply pw_below_drewN | apply below_drew1 | refine below_set ?_ GE101.out | refine below_set ?_ GE134.out) | exact HB.out)))); (case aL => have := LMc61.out; omega); intro v156 w66 ho hb hg hat; rw [← Ny155.out] at ho; have n0_ := Aside0.mk (Kd.R_over' (by (with_reducible repeat (first | apply Kd.R_alloc | apply Kd.R_drewN | apply Kd.R_drew)); exact (rp5 HO_102000 BK134)) (Kd.R_typed (by (with_reducible repeat (first | apply Kd.R_alloc | apply Kd.R_drewN | apply Kd.R_drew)); exact (rp5 HO145 BK134))) (by decide) hg); have n1_ := Aside0.mk (Kd.R_after (ok := (fun k_ => some k_ ≠ (u135001 : Value).ownBlock)) (by (with_reducible repeat (first | apply Kd.R_alloc | apply Kd.R_drewN | apply Kd.R_drew)); exact Kd.R_mono (Kd.R_far (p := ⟨gb134, 4, none⟩) (Kd.R_far (p := ⟨gb134, 3, none⟩) (Kd.R_far (p := ⟨gb134, 2, none⟩) (Kd.R_far (p := ⟨gb134, 1, none⟩) (Kd.R_far (p := ⟨gb134, 0, none⟩) (Kd.R_types HO_102001.out BK134.out (by decide)) (fun _ hk => hk.2) (.slice Ao54 t140.length co54)) (fun _ hk => hk.2) (.slice Ao56 t143.length co56)) (fun _ hk => hk.2) (.slice Ao57 t146.length co57)) (fun _ hk => hk.2) (.slice Ao58 t149.length co58)) (fun _ hk => hk.2) (.slice Ao59 t152.length co59)) (fun _ hk => ⟨hk.1.1, hk.1.2⟩)) hg hat); have n2_ := Aside0.mk (Kd.R_over' (by (with_reducible repeat (first | apply Kd.R_alloc | apply Kd.R_drewN | apply Kd.R_drew)); exact (rp5 HO_102002 BK134)) (Kd.R_typed (by (with_reducible repeat (first | apply Kd.R_alloc | apply Kd.R_drewN | apply Kd.R_drew)); exact (rp5 HO145 BK134))) (by decide) hg); have n3_ := Aside0.mk (Kd.R_over' (by (with_reducible repeat (first | apply Kd.R_alloc | apply Kd.R_drewN | apply Kd.R_drew)); exact (rp5 HO_102003 BK134)) (Kd.R_typed (by (with_reducible repeat (first | apply Kd.R_alloc | apply Kd.R_drewN | apply Kd.R_drew)); exact (rp5 HO145 BK134))) (by decide) hg); have n4_ := Aside0.mk (Kd.R_over' (by (with_reducible repeat (first | apply Kd.R_alloc | apply Kd.R_drewN | apply Kd.R_drew)); exact (rp5 HO_102004 BK134)) (Kd.R_typed (by (with_reducible repeat (first | apply Kd.R_alloc | apply Kd.R_drewN | apply Kd.R_drew)); exact (rp5 HO145 BK134))) (by decide) hg); have n5_ := Aside0.mk (Kd.R_over' (by (with_reducible repeat (first | apply Kd.R_alloc | apply Kd.R_drewN | apply Kd.R_drew)); exact (rp5 HO_135000 BK134)) (Kd.R_typed (by (with_reducible repeat (first | apply Kd.R_alloc | apply Kd.R_drewN | apply Kd.R_drew)); exact (rp5 HO145 BK134))) (by decide) hg); have n6_ := Aside0.mk (Kd.R_after (ok := (fun k_ => some k_ ≠ (.slice Ao15 t106.length co15 : Value).ownBlock)) (by (with_reducible repeat (first | apply Kd.R_alloc | apply Kd.R_drewN | apply Kd.R_drew)); exact Kd.R_mono (Kd.R_far (p := ⟨gb134, 4, none⟩) (Kd.R_far (p := ⟨gb134, 3, none⟩) (Kd.R_far (p := ⟨gb134, 2, none⟩) (Kd.R_far (p := ⟨gb134, 1, none⟩) (Kd.R_far (p := ⟨gb134, 0, none⟩) (Kd.R_types HO_135001.out BK134.out (by decide)) (fun _ hk => hk.2) (.slice Ao54 t140.length co54)) (fun _ hk => hk.2) (.slice Ao56 t143.length co56)) (fun _ hk => hk.2) (.slice Ao57 t146.length co57)) (fun _ hk => hk.2) (.slice Ao58 t149.length co58)) (fun _ hk => hk.2) (.slice Ao59 t152.length co59)) (fun _ hk => ⟨hk.1.1, hk.1.2⟩)) hg hat); have n7_ := Aside0.mk (Kd.R_over' (by (with_reducible repeat (first | apply Kd.R_alloc | apply Kd.R_drewN | apply Kd.R_drew)); exact (rp5 HO_135002 BK134)) (Kd.R_typed (by (with_reducible repeat (first | apply Kd.R_alloc | apply Kd.R_drewN | apply Kd.R_drew)); exact (rp5 HO145 BK134))) (by decide) hg); have n8_ := Aside0.mk (Kd.R_over' (by (with_reducible repeat (first | apply Kd.R_alloc | apply Kd.R_drewN | apply Kd.R_drew)); exact (rp5 HO_135003 BK134)) (Kd.R_typed (by (with_reducible repeat (first | apply Kd.R_alloc | apply Kd.R_drewN | apply Kd.R_drew)); exact (rp5 HO145 BK134))) (by decide) hg); have n9_ := Aside0.mk (Kd.R_over' (by (with_reducible repeat (first | apply Kd.R_alloc | apply Kd.R_drewN | apply Kd.R_drew)); exact (rp5 HO_135004 BK134)) (Kd.R_typed (by (with_reducible repeat (first | apply Kd.R_alloc | apply Kd.R_drewN | apply Kd.R_drew)); exact (rp5 HO145 BK134))) (by decide) hg); have n10_ := Aside0.mk (blk_grown (g := gb101) (o := .cells #[.slice Ao13 t103.length co13, .slice Ao15 t106.length co15, .slice Ao16 t109.length co16, .slice Ao17 t112.length co17, .slice Ao18 t115.length co18] 27 (0, 0)) (by (with_reducible repeat (first | refine blk_drewN ?_ _ | refine blk_drew ?_ | refine blk_alloc ?_ _)); refine blk_far ?_ NB101_134.out _; (with_reducible repeat (first | refine blk_drewN ?_ _ | refine blk_drew ?_ | refine blk_alloc ?_ _)); refine blk_far ?_ NB101_134.out _; (with_reducible repeat (first | refine blk_drewN ?_ _ | refine blk_drew ?_ | refine blk_alloc ?_ _)); refine blk_far ?_ NB101_134.out _; (with_reducible repeat (first | refine blk_drewN ?_ _ | refine blk_drew ?_ | refine blk_alloc ?_ _)); refine blk_far ?_ NB101_134.out _; (with_reducible repeat (first | refine blk_drewN ?_ _ | refine blk_drew ?_ | refine blk_alloc ?_ _)); refine blk_far ?_ NB101_134.out _; (with_reducible repeat (first | refine blk_drewN ?_ _ | refine blk_drew ?_ | refine blk_alloc ?_ _)); exact BK101.out) hg (Kd.R_ne HO145.out BK101.out (by decide))); have n11_ := Aside0.mk (blk_grown (g := gb134) (o := .cells #[.slice Ao54 t140.length co54, .slice Ao56 t143.length co56, .slice Ao57 t146.length co57, .slice Ao58 t149.length co58, .slice Ao59 t152.length co59] 27 (0, 0)) (by (with_reducible repeat (first | refine blk_drewN ?_ _ | refine blk_drew ?_ | refine blk_alloc ?_ _)); refine blk_put (cs := #[.slice Ao54 t140.length co54, .slice Ao56 t143.length co56, .slice Ao57 t146.length co57, .slice Ao58 t149.length co58, .slice Ao29 t131.length co29]) ?_ 4 _ rfl; (with_reducible repeat (first | refine blk_drewN ?_ _ | refine blk_drew ?_ | refine blk_alloc ?_ _)); refine blk_put (cs := #[.slice Ao54 t140.length co54, .slice Ao56 t143.length co56, .slice Ao57 t146.length co57, .slice Ao28 t128.length co28, .slice Ao29 t131.length co29]) ?_ 3 _ rfl; (with_reducible repeat (first | refine blk_drewN ?_ _ | refine blk_drew ?_ | refine blk_alloc ?_ _)); refine blk_put (cs := #[.slice Ao54 t140.length co54, .slice Ao56 t143.length co56, .slice Ao27 t125.length co27, .slice Ao28 t128.length co28, .slice Ao29 t131.length co29]) ?_ 2 _ rfl; (with_reducible repeat (first | refine blk_drewN ?_ _ | refine blk_drew ?_ | refine blk_alloc ?_ _)); refine blk_put (cs := #[.slice Ao54 t140.length co54, u135001, .slice Ao27 t125.length co27, .slice Ao28 t128.length co28, .slice Ao29 t131.length co29]) ?_ 1 _ rfl; (with_reducible repeat (first | refine blk_drewN ?_ _ | refine blk_drew ?_ | refine blk_alloc ?_ _)); refine blk_put (cs := #[.slice Ao23 t119.length co23, u135001, .slice Ao27 t125.length co27, .slice Ao28 t128.length co28, .slice Ao29 t131.length co29]) ?_ 0 _ rfl; (with_reducible repeat (first | refine blk_drewN ?_ _ | refine blk_drew ?_ | refine blk_alloc ?_ _)); exact BK134.out) hg (Kd.R_ne HO145.out BK134.out (by decide))); have n12_ := Aside0.mk (Kd.R_over' (by (with_reducible repeat (first | apply Kd.R_alloc | apply Kd.R_drewN | apply Kd.R_drew)); exact (rp5 HO142 BK134)) (Kd.R_typed (by (with_reducible repeat (first | apply Kd.R_alloc | apply Kd.R_drewN | apply Kd.R_drew)); exact (rp5 HO145 BK134))) (by decide) hg); have n13_ := Aside0.mk (Kd.R_over' (by (with_reducible repeat (first | apply Kd.R_alloc | apply Kd.R_drewN | apply Kd.R_drew)); exact (rp5 HO148 BK134)) (Kd.R_typed (by (with_reducible repeat (first | apply Kd.R_alloc | apply Kd.R_drewN | apply Kd.R_drew)); exact (rp5 HO145 BK134))) (by decide) hg); have n14_ := Aside0.mk (Kd.R_over' (by (with_reducible repeat (first | apply Kd.R_alloc | apply Kd.R_drewN | apply Kd.R_drew)); exact (rp5 HO151 BK134)) (Kd.R_typed (by (with_reducible repeat (first | apply Kd.R_alloc | apply Kd.R_drewN | apply Kd.R_drew)); exact (rp5 HO145 BK134))) (by decide) hg); have n15_ := Aside0.mk (Kd.R_over' (by (with_reducible repeat (first | apply Kd.R_alloc | apply Kd.R_drewN | apply Kd.R_drew)); exact (rp5 HO154 BK134)) (Kd.R_typed (by (with_reducible repeat (first | apply Kd.R_alloc | apply Kd.R_drewN | apply Kd.R_drew)); exact (rp5 HO145 BK134))) (by decide) hg); have n16_ := Aside0.mk (hb); have n17_ := Aside0.mk (ho); clear HO_102000; clear HO_102001; clear HO_102002; clear HO_102003; clear HO_102004; clear HO_135000; clear HO_135001; clear HO_135002; clear HO_135003; clear HO_135004; clear BK101; clear BK134; clear HO142; clear HO148; clear HO151; clear HO154; clear HB; clear HO145; have HO_102000 := n0_; have HO_102001 := n1_; have HO_102002 := n2_; have HO_102003 := n3_; have HO_102004 := n4_; have HO_135000 := n5_; have HO_135001 := n6_; have HO_135002 := n7_; have HO_135003 := n8_; have HO_135004 := n9_; have BK101 := n10_; have BK134 := n11_; have HO142 := n12_; have HO148 := n13_; have HO151 := n14_; have HO154 := n15_; have HB := n16_; have HO157 := n17_; clear n0_ n1_ n2_ n3_ n4_ n5_ n6_ n7_ n8_ n9_ n10_ n11_ n12_ n13_ n14_ n15_ n16_ n17_; clear ho hb hg hat; obtain ⟨Ao67, co67, eo67⟩ := Kd.R_slice HO157.out; subst eo67; have hcz68_0 := kc BK134 0 rfl; have hcz68_1 := kc BK134 1 rfl; have hcz68_2 := kc BK134 2 rfl; have hcz68_3 := kc BK134 3 rfl; have hcz68_4 := kc BK134 4 rfl; have hfz68_0 := blk_frozen BK134.out 0; have hfz68_1 := blk_frozen BK134.out 1; have hfz68_2 := blk_frozen BK134.out 2; have hfz68_3 := blk_frozen BK134.out 3; have hfz68_4 := blk_frozen BK134.out 4) | ((with_reducible refine gate_callee (f := 16) rfl ?_); refine goesL_ (some 60) rfl rfl Try.func16 (by kernel_rfl) rfl #[.agg #[.slice Ao54 t140.length co54, .slice Ao67 y155.length co67, .slice Ao57 t146.length co57, .slice Ao58 t149.length co58, .slice Ao59 t152.length co59], .int .i64 8, .int .i64 4] rfl (by (try simp only [List.map_toArray, List.map_cons, List.map_nil]); first | done | rfl | (simp only [List.length_drop, List.length_take]; rfl)) ?_; (with_reducible refine (block_Right.calls _ _ t140 _ _ y155 _ _ t146 _ _ t149 _ _ t152 8 4 t158 _ ?side1 ?side2 ?side3 ?side4 ?side5 ?side6 ?side7 ?side8 ?side9 ?side10 A62.out).mono ?_); (case side1 => refine (Kd.R_reads' (e := 56) (base := w.heap.size) (ok := fun k_ => ((True ∧ some k_ ≠ (.slice Ao13 t103.length co13 : Value).ownBlock) ∧ some k_ ≠ (.slice Ao23 t119.length co23 : Value).ownBlock)) (n := t140.length) (c := co54) ?_).2.2; exact (by (with_reducible repeat (first | apply Kd.R_alloc | apply Kd.R_drewN | apply Kd.R_drew)); exact (rp1 HO142 BK134))); (case side2 => exact (Kd.R_reads' HO142.out).2.1); (case side3 => refine (Kd.R_reads' (e := 54) (base := w.heap.size) (ok := fun k_ => (some k_ ≠ (.slice Ao15 t106.length co15 : Value).ownBlock ∧ some k_ ≠ (u135001 : Value).ownBlock)) (n := y155.length) (c := co67) ?_).2.2; exact (by (with_reducible repeat (first | apply Kd.R_alloc | apply Kd.R_drewN | apply Kd.R_drew)); exact (rp1 HO157 BK134))); (case side4 => exact (Kd.R_reads' HO157.out).2.1); (case side5 => refine (Kd.R_reads' (e := 67) (base := w.heap.size) (ok := fun k_ => ((True ∧ some k_ ≠ (.slice Ao16 t109.length co16 : Value).ownBlock) ∧ some k_ ≠ (.slice Ao27 t125.length co27 : Value).ownBlock)) (n := t146.length) (c := co57) ?_).2.2; exact (by (with_reducible repeat (first | apply Kd.R_alloc | apply Kd.R_drewN | apply Kd.R_drew)); exact (rp1 HO148 BK134))); (case side6 => exact (Kd.R_reads' HO148.out).2.1); (case side7 => refine (Kd.R_reads' (e := 4) (base := w.heap.size) (ok := fun k_ => ((((some k_ ≠ (.slice Ao59 t152.length co59 : Value).ownBlock ∧ some k_ ≠ (.slice Ao17 t112.length co17 : Value).ownBlock) ∧ some k_ ≠ (.slice Ao18 t115.length co18 : Value).ownBlock) ∧ some k_ ≠ (.slice Ao28 t128.length co28 : Value).ownBlock) ∧ some k_ ≠ (.slice Ao29 t131.length co29 : Value).ownBlock)) (n := t149.length) (c := co58) ?_).2.2; exact (by (with_reducible repeat (first | apply Kd.R_alloc | apply Kd.R_drewN | apply Kd.R_drew)); exact (rp1 HO151 BK134))); (case side8 => exact (Kd.R_reads' HO151.out).2.1); (case side9 => refine (Kd.R_reads' (e := 4) (base := w.heap.size) (ok := fun k_ => ((((some k_ ≠ (.slice Ao58 t149.length co58 : Value).ownBlock ∧ some k_ ≠ (.slice Ao17 t112.length co17 : Value).ownBlock) ∧ some k_ ≠ (.slice Ao18 t115.length co18 : Value).ownBlock) ∧ some k_ ≠ (.slice Ao28 t128.length co28 : Value).ownBlock) ∧ some k_ ≠ (.slice Ao29 t131.length co29 : Value).ownBlock)) (n := t152.length) (c := co59) ?_).2.2; exact (by (with_reducible repeat (first | apply Kd.R_alloc | apply Kd.R_drewN | apply Kd.R_drew)); exact (rp1 HO154 BK134))); (case side10 => exact (Kd.R_reads' HO154.out).2.1); rintro e w69 ⟨rfl, hb⟩; refine ⟨_, rfl, ?_⟩; have n0_ := Aside0.mk (Kd.R_below (by (with_reducible repeat (first | apply Kd.R_alloc | apply Kd.R_drewN | apply Kd.R_drew)); exact (rp1 HO_102000 BK134)) hb); have n1_ := Aside0.mk (Kd.R_below (by (with_reducible repeat (first | apply Kd.R_alloc | apply Kd.R_drewN | apply Kd.R_drew)); exact (rp1 HO_102001 BK134)) hb); have n2_ := Aside0.mk (Kd.R_below (by (with_reducible repeat (first | apply Kd.R_alloc | apply Kd.R_drewN | apply Kd.R_drew)); exact (rp1 HO_102002 BK134)) hb); have n3_ := Aside0.mk (Kd.R_below (by (with_reducible repeat (first | apply Kd.R_alloc | apply Kd.R_drewN | apply Kd.R_drew)); exact (rp1 HO_102003 BK134)) hb); have n4_ := Aside0.mk (Kd.R_below (by (with_reducible repeat (first | apply Kd.R_alloc | apply Kd.R_drewN | apply Kd.R_drew)); exact (rp1 HO_102004 BK134)) hb); have n5_ := Aside0.mk (Kd.R_below (by (with_reducible repeat (first | apply Kd.R_alloc | apply Kd.R_drewN | apply Kd.R_drew)); exact (rp1 HO_135000 BK134)) hb); have n6_ := Aside0.mk (Kd.R_below (by (with_reducible repeat (first | apply Kd.R_alloc | apply Kd.R_drewN | apply Kd.R_drew)); exact (rp1 HO_135001 BK134)) hb); have n7_ := Aside0.mk (Kd.R_below (by (with_reducible repeat (first | apply Kd.R_alloc | apply Kd.R_drewN | apply Kd.R_drew)); exact (rp1 HO_135002 BK134)) hb); have n8_ := Aside0.mk (Kd.R_below (by (with_reducible repeat (first | apply Kd.R_alloc | apply Kd.R_drewN | apply Kd.R_drew)); exact (rp1 HO_135003 BK134)) hb); have n9_ := Aside0.mk (Kd.R_below (by (with_reducible repeat (first | apply Kd.R_alloc | apply Kd.R_drewN | apply Kd.R_drew)); exact (rp1 HO_135004 BK134)) hb); have n10_ := Aside0.mk (Kd.R_below (by (with_reducible repeat (first | apply Kd.R_alloc | apply Kd.R_drewN | apply Kd.R_drew)); exact (rp1 HO142 BK134)) hb); have n11_ := Aside0.mk (Kd.R_below (by (with_reducible repeat (first | apply Kd.R_alloc | apply Kd.R_drewN | apply Kd.R_drew)); exact (rp1 HO148 BK134)) hb); have n12_ := Aside0.mk (Kd.R_below (by (with_reducible repeat (first | apply Kd.R_alloc | apply Kd.R_drewN | apply Kd.R_drew)); exact (rp1 HO151 BK134)) hb); have n13_ := Aside0.mk (Kd.R_below (by (with_reducible repeat (first | apply Kd.R_alloc | apply Kd.R_drewN | apply Kd.R_drew)); exact (rp1 HO154 BK134)) hb); have n14_ := Aside0.mk (Kd.R_below (by (with_reducible repeat (first | apply Kd.R_alloc | apply Kd.R_drewN | apply Kd.R_drew)); exact (rp1 HO157 BK134)) hb); have n15_ := Aside0.mk (blk_below (g := gb101) (o := .cells #[.slice Ao13 t103.length co13, .slice Ao15 t106.length co15, .slice Ao16 t109.length co16, .slice Ao17 t112.length co17, .slice Ao18 t115.length co18] 27 (0, 0)) (by (with_reducible repeat (first | refine blk_drewN ?_ _ | refine blk_drew ?_ | refine blk_alloc ?_ _)); refine blk_far ?_ NB101_134.out _; (with_reducible repeat (first | refine blk_drewN ?_ _ | refine blk_drew ?_ | refine blk_alloc ?_ _)); exact BK101.out) hb); have n16_ := Aside0.mk (blk_below (g := gb134) (o := .cells #[.slice Ao54 t140.length co54, .slice Ao67 y155.length co67, .slice Ao57 t146.length co57, .slice Ao58 t149.length co58, .slice Ao59 t152.length co59] 27 (0, 0)) (by (with_reducible repeat (first | refine blk_drewN ?_ _ | refine blk_drew ?_ | refine blk_alloc ?_ _)); refine blk_put (cs := #[.slice Ao54 t140.length co54, .slice Ao56 t143.length co56, .slice Ao57 t146.length co57, .slice Ao58 t149.length co58, .slice Ao59 t152.length co59]) ?_ 1 _ rfl; (with_reducible repeat (first | refine blk_drewN ?_ _ | refine blk_drew ?_ | refine blk_alloc ?_ _)); exact BK134.out) hb); have n17_ := Aside0.mk (below_step (by repeat (first | (with_reducible first | exact HB.out | apply below_alloc | apply pw_below_drewN | apply below_drew1 | refine below_set ?_ GE101.out | refine below_set ?_ GE134.out) | exact HB.out)) hb); clear HO_102000; clear HO_102001; clear HO_102002; clear HO_102003; clear HO_102004; clear HO_135000; clear HO_135001; clear HO_135002; clear HO_135003; clear HO_135004; clear HO142; clear HO148; clear HO151; clear HO154; clear HO157; clear BK101; clear BK134; clear HB; have HO_102000 := n0_; have HO_102001 := n1_; have HO_102002 := n2_; have HO_102003 := n3_; have HO_102004 := n4_; have HO_135000 := n5_; have HO_135001 := n6_; have HO_135002 := n7_; have HO_135003 := n8_; have HO_135004 := n9_; have HO142 := n10_; have HO148 := n11_; have HO151 := n12_; have HO154 := n13_; have HO157 := n14_; have BK101 := n15_; have BK134 := n16_; have HB := n17_; clear n0_ n1_ n2_ n3_ n4_ n5_ n6_ n7_ n8_ n9_ n10_ n11_ n12_ n13_ n14_ n15_ n16_ n17_; (try clear hb); (try clear hb2); (try clear hk); (try clear hi)))
        go_ret
        exact ⟨by first | rfl | (simp [errW_none, errW_some] <;> rfl) | (simp [*, errW_none, errW_some] <;> rfl), by repeat (first | (with_reducible first | exact HB.out | apply below_alloc | apply pw_below_drewN | apply below_drew1 | refine below_set ?_ GE101.out | refine below_set ?_ GE134.out) | exact HB.out)⟩
       ·
        rw [if_neg c63] at H
        have c63b0 : (t158 != (decide ((Go.bits .and .i64 a1 511) < (t103.length : Int)))) = false := by simpa using c63
        (try (have c63b1 : decide (t158 = (decide ((Go.bits .and .i64 a1 511) < (t103.length : Int)))) = true := by simpa using c63))
        (try (have c63b2 : (t158 == (decide ((Go.bits .and .i64 a1 511) < (t103.length : Int)))) = true := by simpa using c63))
        clear c63
        have H' := Aside0.mk H
        clear H
        have hnb70 := NB134_101.out
        have hnc70 := NB101_134.out
        have hcz71_0 := kc BK134 0 rfl
        have hcz71_1 := kc BK134 1 rfl
        have hcz71_2 := kc BK134 2 rfl
        have hcz71_3 := kc BK134 3 rfl
        have hcz71_4 := kc BK134 4 rfl
        have hfz71_0 := blk_frozen BK134.out 0
        have hfz71_1 := blk_frozen BK134.out 1
        have hfz71_2 := blk_frozen BK134.out 2
        have hfz71_3 := blk_frozen BK134.out 3
        have hfz71_4 := blk_frozen BK134.out 4
        go_wp2_with (first | ((with_reducible refine gate_builtin (b := .append) (xs := #[.tmp 51, .tmp 56]) rfl ?_); at_builtin; refine Kd.R_append k54 (w0 := w) w.heap.size rfl (.tmp 51) (.tmp 56) 23 54 (.agg #[(.int .i64 0), (.int .i64 0)]) 16 rfl Try.underlying23 info54 rfl (by decide) (by omega) (.slice Ao56 t143.length co56) t143 (⟨wrap64 (x8_7 + 1), Go.bits .and .i64 a1 511⟩ : S54) [.int .i64 (wrap64 (x8_7 + 1)), .int .i64 (Go.bits .and .i64 a1 511)] (fun k_ => some k_ ≠ (.slice Ao15 t106.length co15 : Value).ownBlock ∧ some k_ ≠ (u135001 : Value).ownBlock) (fun _ => False) rfl (by first | (go_simp; done) | (go_simp; rfl)) ?aP (fun _ hk => hk.elim) ?aF ?aO ?aB ?aS ?aL ?_; (case aP => exact k54_mkM _ _ _ (⟨wrap64 (x8_7 + 1), Go.bits .and .i64 a1 511⟩ : S54)); (case aB => exact (by repeat (first | (with_reducible first | exact HB.out | apply below_alloc | apply pw_below_drewN | apply below_drew1 | refine below_set ?_ GE101.out | refine below_set ?_ GE134.out) | exact HB.out))); (case aF => exact (fun k_ hk => ⟨Kd.fresh' (Kd.R_lt (by (with_reducible repeat (first | apply Kd.R_alloc | apply Kd.R_drewN | apply Kd.R_drew)); exact (rp5 HO_102001 BK134))) k_ hk, Kd.fresh' (Kd.R_lt (by (with_reducible repeat (first | apply Kd.R_alloc | apply Kd.R_drewN | apply Kd.R_drew)); exact (rp5 HO_135001 BK134))) k_ hk⟩)); (case aO => exact (by (with_reducible repeat (first | apply Kd.R_alloc | apply Kd.R_drewN | apply Kd.R_drew)); exact Kd.R_mono (Kd.R_far (p := ⟨gb134, 4, none⟩) (Kd.R_far (p := ⟨gb134, 3, none⟩) (Kd.R_far (p := ⟨gb134, 2, none⟩) (Kd.R_far (p := ⟨gb134, 1, none⟩) (Kd.R_far (p := ⟨gb134, 0, none⟩) (Kd.R_types HO145.out BK134.out (by decide)) (fun _ hk => hk.2) (.slice Ao54 t140.length co54)) (fun _ hk => hk.2) (.slice Ao56 t143.length co56)) (fun _ hk => hk.2) (.slice Ao57 t146.length co57)) (fun _ hk => hk.2) (.slice Ao58 t149.length co58)) (fun _ hk => hk.2) (.slice Ao59 t152.length co59)) (fun _ hk => ⟨hk.1.1.2, hk.1.2⟩))); (case aS => exact (below_size (by repeat (first | (with_reducible first | exact HB.out | apply below_alloc | apply pw_below_drewN | apply below_drew1 | refine below_set ?_ GE101.out | refine below_set ?_ GE134.out) | exact HB.out)))); (case aL => have := LMc61.out; omega); intro v156 w72 ho hb hg hat; rw [← Ny155.out] at ho; have n0_ := Aside0.mk (Kd.R_over' (by (with_reducible repeat (first | apply Kd.R_alloc | apply Kd.R_drewN | apply Kd.R_drew)); exact (rp5 HO_102000 BK134)) (Kd.R_typed (by (with_reducible repeat (first | apply Kd.R_alloc | apply Kd.R_drewN | apply Kd.R_drew)); exact (rp5 HO145 BK134))) (by decide) hg); have n1_ := Aside0.mk (Kd.R_after (ok := (fun k_ => some k_ ≠ (u135001 : Value).ownBlock)) (by (with_reducible repeat (first | apply Kd.R_alloc | apply Kd.R_drewN | apply Kd.R_drew)); exact Kd.R_mono (Kd.R_far (p := ⟨gb134, 4, none⟩) (Kd.R_far (p := ⟨gb134, 3, none⟩) (Kd.R_far (p := ⟨gb134, 2, none⟩) (Kd.R_far (p := ⟨gb134, 1, none⟩) (Kd.R_far (p := ⟨gb134, 0, none⟩) (Kd.R_types HO_102001.out BK134.out (by decide)) (fun _ hk => hk.2) (.slice Ao54 t140.length co54)) (fun _ hk => hk.2) (.slice Ao56 t143.length co56)) (fun _ hk => hk.2) (.slice Ao57 t146.length co57)) (fun _ hk => hk.2) (.slice Ao58 t149.length co58)) (fun _ hk => hk.2) (.slice Ao59 t152.length co59)) (fun _ hk => ⟨hk.1.1, hk.1.2⟩)) hg hat); have n2_ := Aside0.mk (Kd.R_over' (by (with_reducible repeat (first | apply Kd.R_alloc | apply Kd.R_drewN | apply Kd.R_drew)); exact (rp5 HO_102002 BK134)) (Kd.R_typed (by (with_reducible repeat (first | apply Kd.R_alloc | apply Kd.R_drewN | apply Kd.R_drew)); exact (rp5 HO145 BK134))) (by decide) hg); have n3_ := Aside0.mk (Kd.R_over' (by (with_reducible repeat (first | apply Kd.R_alloc | apply Kd.R_drewN | apply Kd.R_drew)); exact (rp5 HO_102003 BK134)) (Kd.R_typed (by (with_reducible repeat (first | apply Kd.R_alloc | apply Kd.R_drewN | apply Kd.R_drew)); exact (rp5 HO145 BK134))) (by decide) hg); have n4_ := Aside0.mk (Kd.R_over' (by (with_reducible repeat (first | apply Kd.R_alloc | apply Kd.R_drewN | apply Kd.R_drew)); exact (rp5 HO_102004 BK134)) (Kd.R_typed (by (with_reducible repeat (first | apply Kd.R_alloc | apply Kd.R_drewN | apply Kd.R_drew)); exact (rp5 HO145 BK134))) (by decide) hg); have n5_ := Aside0.mk (Kd.R_over' (by (with_reducible repeat (first | apply Kd.R_alloc | apply Kd.R_drewN | apply Kd.R_drew)); exact (rp5 HO_135000 BK134)) (Kd.R_typed (by (with_reducible repeat (first | apply Kd.R_alloc | apply Kd.R_drewN | apply Kd.R_drew)); exact (rp5 HO145 BK134))) (by decide) hg); have n6_ := Aside0.mk (Kd.R_after (ok := (fun k_ => some k_ ≠ (.slice Ao15 t106.length co15 : Value).ownBlock)) (by (with_reducible repeat (first | apply Kd.R_alloc | apply Kd.R_drewN | apply Kd.R_drew)); exact Kd.R_mono (Kd.R_far (p := ⟨gb134, 4, none⟩) (Kd.R_far (p := ⟨gb134, 3, none⟩) (Kd.R_far (p := ⟨gb134, 2, none⟩) (Kd.R_far (p := ⟨gb134, 1, none⟩) (Kd.R_far (p := ⟨gb134, 0, none⟩) (Kd.R_types HO_135001.out BK134.out (by decide)) (fun _ hk => hk.2) (.slice Ao54 t140.length co54)) (fun _ hk => hk.2) (.slice Ao56 t143.length co56)) (fun _ hk => hk.2) (.slice Ao57 t146.length co57)) (fun _ hk => hk.2) (.slice Ao58 t149.length co58)) (fun _ hk => hk.2) (.slice Ao59 t152.length co59)) (fun _ hk => ⟨hk.1.1, hk.1.2⟩)) hg hat); have n7_ := Aside0.mk (Kd.R_over' (by (with_reducible repeat (first | apply Kd.R_alloc | apply Kd.R_drewN | apply Kd.R_drew)); exact (rp5 HO_135002 BK134)) (Kd.R_typed (by (with_reducible repeat (first | apply Kd.R_alloc | apply Kd.R_drewN | apply Kd.R_drew)); exact (rp5 HO145 BK134))) (by decide) hg); have n8_ := Aside0.mk (Kd.R_over' (by (with_reducible repeat (first | apply Kd.R_alloc | apply Kd.R_drewN | apply Kd.R_drew)); exact (rp5 HO_135003 BK134)) (Kd.R_typed (by (with_reducible repeat (first | apply Kd.R_alloc | apply Kd.R_drewN | apply Kd.R_drew)); exact (rp5 HO145 BK134))) (by decide) hg); have n9_ := Aside0.mk (Kd.R_over' (by (with_reducible repeat (first | apply Kd.R_alloc | apply Kd.R_drewN | apply Kd.R_drew)); exact (rp5 HO_135004 BK134)) (Kd.R_typed (by (with_reducible repeat (first | apply Kd.R_alloc | apply Kd.R_drewN | apply Kd.R_drew)); exact (rp5 HO145 BK134))) (by decide) hg); have n10_ := Aside0.mk (blk_grown (g := gb101) (o := .cells #[.slice Ao13 t103.length co13, .slice Ao15 t106.length co15, .slice Ao16 t109.length co16, .slice Ao17 t112.length co17, .slice Ao18 t115.length co18] 27 (0, 0)) (by (with_reducible repeat (first | refine blk_drewN ?_ _ | refine blk_drew ?_ | refine blk_alloc ?_ _)); refine blk_far ?_ NB101_134.out _; (with_reducible repeat (first | refine blk_drewN ?_ _ | refine blk_drew ?_ | refine blk_alloc ?_ _)); refine blk_far ?_ NB101_134.out _; (with_reducible repeat (first | refine blk_drewN ?_ _ | refine blk_drew ?_ | refine blk_alloc ?_ _)); refine blk_far ?_ NB101_134.out _; (with_reducible repeat (first | refine blk_drewN ?_ _ | refine blk_drew ?_ | refine blk_alloc ?_ _)); refine blk_far ?_ NB101_134.out _; (with_reducible repeat (first | refine blk_drewN ?_ _ | refine blk_drew ?_ | refine blk_alloc ?_ _)); refine blk_far ?_ NB101_134.out _; (with_reducible repeat (first | refine blk_drewN ?_ _ | refine blk_drew ?_ | refine blk_alloc ?_ _)); exact BK101.out) hg (Kd.R_ne HO145.out BK101.out (by decide))); have n11_ := Aside0.mk (blk_grown (g := gb134) (o := .cells #[.slice Ao54 t140.length co54, .slice Ao56 t143.length co56, .slice Ao57 t146.length co57, .slice Ao58 t149.length co58, .slice Ao59 t152.length co59] 27 (0, 0)) (by (with_reducible repeat (first | refine blk_drewN ?_ _ | refine blk_drew ?_ | refine blk_alloc ?_ _)); refine blk_put (cs := #[.slice Ao54 t140.length co54, .slice Ao56 t143.length co56, .slice Ao57 t146.length co57, .slice Ao58 t149.length co58, .slice Ao29 t131.length co29]) ?_ 4 _ rfl; (with_reducible repeat (first | refine blk_drewN ?_ _ | refine blk_drew ?_ | refine blk_alloc ?_ _)); refine blk_put (cs := #[.slice Ao54 t140.length co54, .slice Ao56 t143.length co56, .slice Ao57 t146.length co57, .slice Ao28 t128.length co28, .slice Ao29 t131.length co29]) ?_ 3 _ rfl; (with_reducible repeat (first | refine blk_drewN ?_ _ | refine blk_drew ?_ | refine blk_alloc ?_ _)); refine blk_put (cs := #[.slice Ao54 t140.length co54, .slice Ao56 t143.length co56, .slice Ao27 t125.length co27, .slice Ao28 t128.length co28, .slice Ao29 t131.length co29]) ?_ 2 _ rfl; (with_reducible repeat (first | refine blk_drewN ?_ _ | refine blk_drew ?_ | refine blk_alloc ?_ _)); refine blk_put (cs := #[.slice Ao54 t140.length co54, u135001, .slice Ao27 t125.length co27, .slice Ao28 t128.length co28, .slice Ao29 t131.length co29]) ?_ 1 _ rfl; (with_reducible repeat (first | refine blk_drewN ?_ _ | refine blk_drew ?_ | refine blk_alloc ?_ _)); refine blk_put (cs := #[.slice Ao23 t119.length co23, u135001, .slice Ao27 t125.length co27, .slice Ao28 t128.length co28, .slice Ao29 t131.length co29]) ?_ 0 _ rfl; (with_reducible repeat (first | refine blk_drewN ?_ _ | refine blk_drew ?_ | refine blk_alloc ?_ _)); exact BK134.out) hg (Kd.R_ne HO145.out BK134.out (by decide))); have n12_ := Aside0.mk (Kd.R_over' (by (with_reducible repeat (first | apply Kd.R_alloc | apply Kd.R_drewN | apply Kd.R_drew)); exact (rp5 HO142 BK134)) (Kd.R_typed (by (with_reducible repeat (first | apply Kd.R_alloc | apply Kd.R_drewN | apply Kd.R_drew)); exact (rp5 HO145 BK134))) (by decide) hg); have n13_ := Aside0.mk (Kd.R_over' (by (with_reducible repeat (first | apply Kd.R_alloc | apply Kd.R_drewN | apply Kd.R_drew)); exact (rp5 HO148 BK134)) (Kd.R_typed (by (with_reducible repeat (first | apply Kd.R_alloc | apply Kd.R_drewN | apply Kd.R_drew)); exact (rp5 HO145 BK134))) (by decide) hg); have n14_ := Aside0.mk (Kd.R_over' (by (with_reducible repeat (first | apply Kd.R_alloc | apply Kd.R_drewN | apply Kd.R_drew)); exact (rp5 HO151 BK134)) (Kd.R_typed (by (with_reducible repeat (first | apply Kd.R_alloc | apply Kd.R_drewN | apply Kd.R_drew)); exact (rp5 HO145 BK134))) (by decide) hg); have n15_ := Aside0.mk (Kd.R_over' (by (with_reducible repeat (first | apply Kd.R_alloc | apply Kd.R_drewN | apply Kd.R_drew)); exact (rp5 HO154 BK134)) (Kd.R_typed (by (with_reducible repeat (first | apply Kd.R_alloc | apply Kd.R_drewN | apply Kd.R_drew)); exact (rp5 HO145 BK134))) (by decide) hg); have n16_ := Aside0.mk (hb); have n17_ := Aside0.mk (ho); clear HO_102000; clear HO_102001; clear HO_102002; clear HO_102003; clear HO_102004; clear HO_135000; clear HO_135001; clear HO_135002; clear HO_135003; clear HO_135004; clear BK101; clear BK134; clear HO142; clear HO148; clear HO151; clear HO154; clear HB; clear HO145; have HO_102000 := n0_; have HO_102001 := n1_; have HO_102002 := n2_; have HO_102003 := n3_; have HO_102004 := n4_; have HO_135000 := n5_; have HO_135001 := n6_; have HO_135002 := n7_; have HO_135003 := n8_; have HO_135004 := n9_; have BK101 := n10_; have BK134 := n11_; have HO142 := n12_; have HO148 := n13_; have HO151 := n14_; have HO154 := n15_; have HB := n16_; have HO157 := n17_; clear n0_ n1_ n2_ n3_ n4_ n5_ n6_ n7_ n8_ n9_ n10_ n11_ n12_ n13_ n14_ n15_ n16_ n17_; clear ho hb hg hat; obtain ⟨Ao73, co73, eo73⟩ := Kd.R_slice HO157.out; subst eo73; have hcz74_0 := kc BK134 0 rfl; have hcz74_1 := kc BK134 1 rfl; have hcz74_2 := kc BK134 2 rfl; have hcz74_3 := kc BK134 3 rfl; have hcz74_4 := kc BK134 4 rfl; have hfz74_0 := blk_frozen BK134.out 0; have hfz74_1 := blk_frozen BK134.out 1; have hfz74_2 := blk_frozen BK134.out 2; have hfz74_3 := blk_frozen BK134.out 3; have hfz74_4 := blk_frozen BK134.out 4) | ((with_reducible refine gate_callee (f := 16) rfl ?_); refine goesL_ (some 60) rfl rfl Try.func16 (by kernel_rfl) rfl #[.agg #[.slice Ao54 t140.length co54, .slice Ao73 y155.length co73, .slice Ao57 t146.length co57, .slice Ao58 t149.length co58, .slice Ao59 t152.length co59], .int .i64 8, .int .i64 4] rfl (by (try simp only [List.map_toArray, List.map_cons, List.map_nil]); first | done | rfl | (simp only [List.length_drop, List.length_take]; rfl)) ?_; (with_reducible refine (block_Right.calls _ _ t140 _ _ y155 _ _ t146 _ _ t149 _ _ t152 8 4 t158 _ ?side1 ?side2 ?side3 ?side4 ?side5 ?side6 ?side7 ?side8 ?side9 ?side10 A62.out).mono ?_); (case side1 => refine (Kd.R_reads' (e := 56) (base := w.heap.size) (ok := fun k_ => ((True ∧ some k_ ≠ (.slice Ao13 t103.length co13 : Value).ownBlock) ∧ some k_ ≠ (.slice Ao23 t119.length co23 : Value).ownBlock)) (n := t140.length) (c := co54) ?_).2.2; exact (by (with_reducible repeat (first | apply Kd.R_alloc | apply Kd.R_drewN | apply Kd.R_drew)); exact (rp1 HO142 BK134))); (case side2 => exact (Kd.R_reads' HO142.out).2.1); (case side3 => refine (Kd.R_reads' (e := 54) (base := w.heap.size) (ok := fun k_ => (some k_ ≠ (.slice Ao15 t106.length co15 : Value).ownBlock ∧ some k_ ≠ (u135001 : Value).ownBlock)) (n := y155.length) (c := co73) ?_).2.2; exact (by (with_reducible repeat (first | apply Kd.R_alloc | apply Kd.R_drewN | apply Kd.R_drew)); exact (rp1 HO157 BK134))); (case side4 => exact (Kd.R_reads' HO157.out).2.1); (case side5 => refine (Kd.R_reads' (e := 67) (base := w.heap.size) (ok := fun k_ => ((True ∧ some k_ ≠ (.slice Ao16 t109.length co16 : Value).ownBlock) ∧ some k_ ≠ (.slice Ao27 t125.length co27 : Value).ownBlock)) (n := t146.length) (c := co57) ?_).2.2; exact (by (with_reducible repeat (first | apply Kd.R_alloc | apply Kd.R_drewN | apply Kd.R_drew)); exact (rp1 HO148 BK134))); (case side6 => exact (Kd.R_reads' HO148.out).2.1); (case side7 => refine (Kd.R_reads' (e := 4) (base := w.heap.size) (ok := fun k_ => ((((some k_ ≠ (.slice Ao59 t152.length co59 : Value).ownBlock ∧ some k_ ≠ (.slice Ao17 t112.length co17 : Value).ownBlock) ∧ some k_ ≠ (.slice Ao18 t115.length co18 : Value).ownBlock) ∧ some k_ ≠ (.slice Ao28 t128.length co28 : Value).ownBlock) ∧ some k_ ≠ (.slice Ao29 t131.length co29 : Value).ownBlock)) (n := t149.length) (c := co58) ?_).2.2; exact (by (with_reducible repeat (first | apply Kd.R_alloc | apply Kd.R_drewN | apply Kd.R_drew)); exact (rp1 HO151 BK134))); (case side8 => exact (Kd.R_reads' HO151.out).2.1); (case side9 => refine (Kd.R_reads' (e := 4) (base := w.heap.size) (ok := fun k_ => ((((some k_ ≠ (.slice Ao58 t149.length co58 : Value).ownBlock ∧ some k_ ≠ (.slice Ao17 t112.length co17 : Value).ownBlock) ∧ some k_ ≠ (.slice Ao18 t115.length co18 : Value).ownBlock) ∧ some k_ ≠ (.slice Ao28 t128.length co28 : Value).ownBlock) ∧ some k_ ≠ (.slice Ao29 t131.length co29 : Value).ownBlock)) (n := t152.length) (c := co59) ?_).2.2; exact (by (with_reducible repeat (first | apply Kd.R_alloc | apply Kd.R_drewN | apply Kd.R_drew)); exact (rp1 HO154 BK134))); (case side10 => exact (Kd.R_reads' HO154.out).2.1); rintro e w75 ⟨rfl, hb⟩; refine ⟨_, rfl, ?_⟩; have n0_ := Aside0.mk (Kd.R_below (by (with_reducible repeat (first | apply Kd.R_alloc | apply Kd.R_drewN | apply Kd.R_drew)); exact (rp1 HO_102000 BK134)) hb); have n1_ := Aside0.mk (Kd.R_below (by (with_reducible repeat (first | apply Kd.R_alloc | apply Kd.R_drewN | apply Kd.R_drew)); exact (rp1 HO_102001 BK134)) hb); have n2_ := Aside0.mk (Kd.R_below (by (with_reducible repeat (first | apply Kd.R_alloc | apply Kd.R_drewN | apply Kd.R_drew)); exact (rp1 HO_102002 BK134)) hb); have n3_ := Aside0.mk (Kd.R_below (by (with_reducible repeat (first | apply Kd.R_alloc | apply Kd.R_drewN | apply Kd.R_drew)); exact (rp1 HO_102003 BK134)) hb); have n4_ := Aside0.mk (Kd.R_below (by (with_reducible repeat (first | apply Kd.R_alloc | apply Kd.R_drewN | apply Kd.R_drew)); exact (rp1 HO_102004 BK134)) hb); have n5_ := Aside0.mk (Kd.R_below (by (with_reducible repeat (first | apply Kd.R_alloc | apply Kd.R_drewN | apply Kd.R_drew)); exact (rp1 HO_135000 BK134)) hb); have n6_ := Aside0.mk (Kd.R_below (by (with_reducible repeat (first | apply Kd.R_alloc | apply Kd.R_drewN | apply Kd.R_drew)); exact (rp1 HO_135001 BK134)) hb); have n7_ := Aside0.mk (Kd.R_below (by (with_reducible repeat (first | apply Kd.R_alloc | apply Kd.R_drewN | apply Kd.R_drew)); exact (rp1 HO_135002 BK134)) hb); have n8_ := Aside0.mk (Kd.R_below (by (with_reducible repeat (first | apply Kd.R_alloc | apply Kd.R_drewN | apply Kd.R_drew)); exact (rp1 HO_135003 BK134)) hb); have n9_ := Aside0.mk (Kd.R_below (by (with_reducible repeat (first | apply Kd.R_alloc | apply Kd.R_drewN | apply Kd.R_drew)); exact (rp1 HO_135004 BK134)) hb); have n10_ := Aside0.mk (Kd.R_below (by (with_reducible repeat (first | apply Kd.R_alloc | apply Kd.R_drewN | apply Kd.R_drew)); exact (rp1 HO142 BK134)) hb); have n11_ := Aside0.mk (Kd.R_below (by (with_reducible repeat (first | apply Kd.R_alloc | apply Kd.R_drewN | apply Kd.R_drew)); exact (rp1 HO148 BK134)) hb); have n12_ := Aside0.mk (Kd.R_below (by (with_reducible repeat (first | apply Kd.R_alloc | apply Kd.R_drewN | apply Kd.R_drew)); exact (rp1 HO151 BK134)) hb); have n13_ := Aside0.mk (Kd.R_below (by (with_reducible repeat (first | apply Kd.R_alloc | apply Kd.R_drewN | apply Kd.R_drew)); exact (rp1 HO154 BK134)) hb); have n14_ := Aside0.mk (Kd.R_below (by (with_reducible repeat (first | apply Kd.R_alloc | apply Kd.R_drewN | apply Kd.R_drew)); exact (rp1 HO157 BK134)) hb); have n15_ := Aside0.mk (blk_below (g := gb101) (o := .cells #[.slice Ao13 t103.length co13, .slice Ao15 t106.length co15, .slice Ao16 t109.length co16, .slice Ao17 t112.length co17, .slice Ao18 t115.length co18] 27 (0, 0)) (by (with_reducible repeat (first | refine blk_drewN ?_ _ | refine blk_drew ?_ | refine blk_alloc ?_ _)); refine blk_far ?_ NB101_134.out _; (with_reducible repeat (first | refine blk_drewN ?_ _ | refine blk_drew ?_ | refine blk_alloc ?_ _)); exact BK101.out) hb); have n16_ := Aside0.mk (blk_below (g := gb134) (o := .cells #[.slice Ao54 t140.length co54, .slice Ao73 y155.length co73, .slice Ao57 t146.length co57, .slice Ao58 t149.length co58, .slice Ao59 t152.length co59] 27 (0, 0)) (by (with_reducible repeat (first | refine blk_drewN ?_ _ | refine blk_drew ?_ | refine blk_alloc ?_ _)); refine blk_put (cs := #[.slice Ao54 t140.length co54, .slice Ao56 t143.length co56, .slice Ao57 t146.length co57, .slice Ao58 t149.length co58, .slice Ao59 t152.length co59]) ?_ 1 _ rfl; (with_reducible repeat (first | refine blk_drewN ?_ _ | refine blk_drew ?_ | refine blk_alloc ?_ _)); exact BK134.out) hb); have n17_ := Aside0.mk (below_step (by repeat (first | (with_reducible first | exact HB.out | apply below_alloc | apply pw_below_drewN | apply below_drew1 | refine below_set ?_ GE101.out | refine below_set ?_ GE134.out) | exact HB.out)) hb); clear HO_102000; clear HO_102001; clear HO_102002; clear HO_102003; clear HO_102004; clear HO_135000; clear HO_135001; clear HO_135002; clear HO_135003; clear HO_135004; clear HO142; clear HO148; clear HO151; clear HO154; clear HO157; clear BK101; clear BK134; clear HB; have HO_102000 := n0_; have HO_102001 := n1_; have HO_102002 := n2_; have HO_102003 := n3_; have HO_102004 := n4_; have HO_135000 := n5_; have HO_135001 := n6_; have HO_135002 := n7_; have HO_135003 := n8_; have HO_135004 := n9_; have HO142 := n10_; have HO148 := n11_; have HO151 := n12_; have HO154 := n13_; have HO157 := n14_; have BK101 := n15_; have BK134 := n16_; have HB := n17_; clear n0_ n1_ n2_ n3_ n4_ n5_ n6_ n7_ n8_ n9_ n10_ n11_ n12_ n13_ n14_ n15_ n16_ n17_; (try clear hb); (try clear hb2); (try clear hk); (try clear hi)))
        go_meet
        case rel => exact ⟨_, (y155), (.slice Ao73 y155.length co73), H', ⟨by have := HJ7.out; first | omega | exact Nat.le_refl _⟩, ⟨by (with_reducible repeat (first | apply Kd.R_alloc | apply Kd.R_drewN | apply Kd.R_drew)); exact Kd.R_mono HO_102000.out (fun _ hk => hk.2)⟩, ⟨by (with_reducible repeat (first | apply Kd.R_alloc | apply Kd.R_drewN | apply Kd.R_drew)); exact Kd.R_mono HO_102001.out (fun _ hk => hk.2)⟩, ⟨by (with_reducible repeat (first | apply Kd.R_alloc | apply Kd.R_drewN | apply Kd.R_drew)); exact Kd.R_mono HO_102002.out (fun _ hk => hk.2)⟩, ⟨by (with_reducible repeat (first | apply Kd.R_alloc | apply Kd.R_drewN | apply Kd.R_drew)); exact Kd.R_mono HO_102003.out (fun _ hk => ⟨hk.1.1.1, ⟨hk.1.2, hk.2⟩⟩)⟩, ⟨by (with_reducible repeat (first | apply Kd.R_alloc | apply Kd.R_drewN | apply Kd.R_drew)); exact Kd.R_mono HO_102004.out (fun _ hk => ⟨hk.1.1.1, ⟨hk.1.2, hk.2⟩⟩)⟩, ⟨by (with_reducible repeat (first | apply Kd.R_alloc | apply Kd.R_drewN | apply Kd.R_drew)); exact Kd.R_mono HO142.out (fun _ hk => hk.1.2)⟩, ⟨by (with_reducible repeat (first | apply Kd.R_alloc | apply Kd.R_drewN | apply Kd.R_drew)); exact Kd.R_mono HO157.out (fun _ hk => hk.1)⟩, ⟨by (with_reducible repeat (first | apply Kd.R_alloc | apply Kd.R_drewN | apply Kd.R_drew)); exact Kd.R_mono HO148.out (fun _ hk => hk.1.2)⟩, ⟨by (with_reducible repeat (first | apply Kd.R_alloc | apply Kd.R_drewN | apply Kd.R_drew)); exact Kd.R_mono HO151.out (fun _ hk => ⟨hk.1.1.1.2, ⟨hk.1.1.2, hk.1.1.1.1⟩⟩)⟩, ⟨by (with_reducible repeat (first | apply Kd.R_alloc | apply Kd.R_drewN | apply Kd.R_drew)); exact Kd.R_mono HO154.out (fun _ hk => ⟨hk.1.1.1.2, ⟨hk.1.1.2, hk.1.1.1.1⟩⟩)⟩, ⟨by (with_reducible repeat (first | refine blk_drewN ?_ _ | refine blk_drew ?_ | refine blk_alloc ?_ _)); exact BK101.out⟩, ⟨by (with_reducible repeat (first | refine blk_drewN ?_ _ | refine blk_drew ?_ | refine blk_alloc ?_ _)); exact BK134.out⟩, ⟨by repeat (first | (with_reducible first | exact HB.out | apply below_alloc | apply pw_below_drewN | apply below_drew1 | refine below_set ?_ GE101.out | refine below_set ?_ GE134.out) | exact HB.out)⟩⟩
      ·
       rw [if_neg c61] at H
       exact absurd H (by simp)
     ·
      rw [if_neg c60] at H
      have c60b0 : decide (x8_7 < 9223372036854775807) = false := decide_eq_false c60
      clear c60
      (first | rw [c60b0] | rw [c60b1] | (simp only [i64_w, i32_w]; rw [c60b0]) | skip)
      have H' := Aside0.mk H
      clear H
      go_wp2
      go_meet
      case rel => exact ⟨_, (t143), (.slice Ao56 t143.length co56), H', ⟨by have := HJ7.out; first | omega | exact Nat.le_refl _⟩, ⟨by (with_reducible repeat (first | apply Kd.R_alloc | apply Kd.R_drewN | apply Kd.R_drew)); exact Kd.R_mono (Kd.R_far (p := ⟨gb134, 4, none⟩) (Kd.R_far (p := ⟨gb134, 3, none⟩) (Kd.R_far (p := ⟨gb134, 2, none⟩) (Kd.R_far (p := ⟨gb134, 1, none⟩) (Kd.R_far (p := ⟨gb134, 0, none⟩) (Kd.R_types HO_102000.out BK134.out (by decide)) (fun _ hk => hk.2) (.slice Ao54 t140.length co54)) (fun _ hk => hk.2) (.slice Ao56 t143.length co56)) (fun _ hk => hk.2) (.slice Ao57 t146.length co57)) (fun _ hk => hk.2) (.slice Ao58 t149.length co58)) (fun _ hk => hk.2) (.slice Ao59 t152.length co59)) (fun _ hk => hk.1.2)⟩, ⟨by (with_reducible repeat (first | apply Kd.R_alloc | apply Kd.R_drewN | apply Kd.R_drew)); exact Kd.R_mono (Kd.R_far (p := ⟨gb134, 4, none⟩) (Kd.R_far (p := ⟨gb134, 3, none⟩) (Kd.R_far (p := ⟨gb134, 2, none⟩) (Kd.R_far (p := ⟨gb134, 1, none⟩) (Kd.R_far (p := ⟨gb134, 0, none⟩) (Kd.R_types HO_102001.out BK134.out (by decide)) (fun _ hk => hk.2) (.slice Ao54 t140.length co54)) (fun _ hk => hk.2) (.slice Ao56 t143.length co56)) (fun _ hk => hk.2) (.slice Ao57 t146.length co57)) (fun _ hk => hk.2) (.slice Ao58 t149.length co58)) (fun _ hk => hk.2) (.slice Ao59 t152.length co59)) (fun _ hk => hk.1.2)⟩, ⟨by (with_reducible repeat (first | apply Kd.R_alloc | apply Kd.R_drewN | apply Kd.R_drew)); exact Kd.R_mono (Kd.R_far (p := ⟨gb134, 4, none⟩) (Kd.R_far (p := ⟨gb134, 3, none⟩) (Kd.R_far (p := ⟨gb134, 2, none⟩) (Kd.R_far (p := ⟨gb134, 1, none⟩) (Kd.R_far (p := ⟨gb134, 0, none⟩) (Kd.R_types HO_102002.out BK134.out (by decide)) (fun _ hk => hk.2) (.slice Ao54 t140.length co54)) (fun _ hk => hk.2) (.slice Ao56 t143.length co56)) (fun _ hk => hk.2) (.slice Ao57 t146.length co57)) (fun _ hk => hk.2) (.slice Ao58 t149.length co58)) (fun _ hk => hk.2) (.slice Ao59 t152.length co59)) (fun _ hk => hk.1.2)⟩, ⟨by (with_reducible repeat (first | apply Kd.R_alloc | apply Kd.R_drewN | apply Kd.R_drew)); exact Kd.R_mono (Kd.R_far (p := ⟨gb134, 4, none⟩) (Kd.R_far (p := ⟨gb134, 3, none⟩) (Kd.R_far (p := ⟨gb134, 2, none⟩) (Kd.R_far (p := ⟨gb134, 1, none⟩) (Kd.R_far (p := ⟨gb134, 0, none⟩) (Kd.R_types HO_102003.out BK134.out (by decide)) (fun _ hk => hk.2) (.slice Ao54 t140.length co54)) (fun _ hk => hk.2) (.slice Ao56 t143.length co56)) (fun _ hk => hk.2) (.slice Ao57 t146.length co57)) (fun _ hk => hk.2) (.slice Ao58 t149.length co58)) (fun _ hk => hk.2) (.slice Ao59 t152.length co59)) (fun _ hk => ⟨hk.1.1.1.1, ⟨hk.1.1.2, hk.1.2⟩⟩)⟩, ⟨by (with_reducible repeat (first | apply Kd.R_alloc | apply Kd.R_drewN | apply Kd.R_drew)); exact Kd.R_mono (Kd.R_far (p := ⟨gb134, 4, none⟩) (Kd.R_far (p := ⟨gb134, 3, none⟩) (Kd.R_far (p := ⟨gb134, 2, none⟩) (Kd.R_far (p := ⟨gb134, 1, none⟩) (Kd.R_far (p := ⟨gb134, 0, none⟩) (Kd.R_types HO_102004.out BK134.out (by decide)) (fun _ hk => hk.2) (.slice Ao54 t140.length co54)) (fun _ hk => hk.2) (.slice Ao56 t143.length co56)) (fun _ hk => hk.2) (.slice Ao57 t146.length co57)) (fun _ hk => hk.2) (.slice Ao58 t149.length co58)) (fun _ hk => hk.2) (.slice Ao59 t152.length co59)) (fun _ hk => ⟨hk.1.1.1.1, ⟨hk.1.1.2, hk.1.2⟩⟩)⟩, ⟨by (with_reducible repeat (first | apply Kd.R_alloc | apply Kd.R_drewN | apply Kd.R_drew)); exact Kd.R_mono (Kd.R_far (p := ⟨gb134, 4, none⟩) (Kd.R_far (p := ⟨gb134, 3, none⟩) (Kd.R_far (p := ⟨gb134, 2, none⟩) (Kd.R_far (p := ⟨gb134, 1, none⟩) (Kd.R_far (p := ⟨gb134, 0, none⟩) (Kd.R_types HO142.out BK134.out (by decide)) (fun _ hk => hk.2) (.slice Ao54 t140.length co54)) (fun _ hk => hk.2) (.slice Ao56 t143.length co56)) (fun _ hk => hk.2) (.slice Ao57 t146.length co57)) (fun _ hk => hk.2) (.slice Ao58 t149.length co58)) (fun _ hk => hk.2) (.slice Ao59 t152.length co59)) (fun _ hk => hk.1.1.2)⟩, ⟨by (with_reducible repeat (first | apply Kd.R_alloc | apply Kd.R_drewN | apply Kd.R_drew)); exact Kd.R_mono (Kd.R_far (p := ⟨gb134, 4, none⟩) (Kd.R_far (p := ⟨gb134, 3, none⟩) (Kd.R_far (p := ⟨gb134, 2, none⟩) (Kd.R_far (p := ⟨gb134, 1, none⟩) (Kd.R_far (p := ⟨gb134, 0, none⟩) (Kd.R_types HO145.out BK134.out (by decide)) (fun _ hk => hk.2) (.slice Ao54 t140.length co54)) (fun _ hk => hk.2) (.slice Ao56 t143.length co56)) (fun _ hk => hk.2) (.slice Ao57 t146.length co57)) (fun _ hk => hk.2) (.slice Ao58 t149.length co58)) (fun _ hk => hk.2) (.slice Ao59 t152.length co59)) (fun _ hk => hk.1.1.2)⟩, ⟨by (with_reducible repeat (first | apply Kd.R_alloc | apply Kd.R_drewN | apply Kd.R_drew)); exact Kd.R_mono (Kd.R_far (p := ⟨gb134, 4, none⟩) (Kd.R_far (p := ⟨gb134, 3, none⟩) (Kd.R_far (p := ⟨gb134, 2, none⟩) (Kd.R_far (p := ⟨gb134, 1, none⟩) (Kd.R_far (p := ⟨gb134, 0, none⟩) (Kd.R_types HO148.out BK134.out (by decide)) (fun _ hk => hk.2) (.slice Ao54 t140.length co54)) (fun _ hk => hk.2) (.slice Ao56 t143.length co56)) (fun _ hk => hk.2) (.slice Ao57 t146.length co57)) (fun _ hk => hk.2) (.slice Ao58 t149.length co58)) (fun _ hk => hk.2) (.slice Ao59 t152.length co59)) (fun _ hk => hk.1.1.2)⟩, ⟨by (with_reducible repeat (first | apply Kd.R_alloc | apply Kd.R_drewN | apply Kd.R_drew)); exact Kd.R_mono (Kd.R_far (p := ⟨gb134, 4, none⟩) (Kd.R_far (p := ⟨gb134, 3, none⟩) (Kd.R_far (p := ⟨gb134, 2, none⟩) (Kd.R_far (p := ⟨gb134, 1, none⟩) (Kd.R_far (p := ⟨gb134, 0, none⟩) (Kd.R_types HO151.out BK134.out (by decide)) (fun _ hk => hk.2) (.slice Ao54 t140.length co54)) (fun _ hk => hk.2) (.slice Ao56 t143.length co56)) (fun _ hk => hk.2) (.slice Ao57 t146.length co57)) (fun _ hk => hk.2) (.slice Ao58 t149.length co58)) (fun _ hk => hk.2) (.slice Ao59 t152.length co59)) (fun _ hk => ⟨hk.1.1.1.1.2, ⟨hk.1.1.1.2, hk.1.1.1.1.1⟩⟩)⟩, ⟨by (with_reducible repeat (first | apply Kd.R_alloc | apply Kd.R_drewN | apply Kd.R_drew)); exact Kd.R_mono (Kd.R_far (p := ⟨gb134, 4, none⟩) (Kd.R_far (p := ⟨gb134, 3, none⟩) (Kd.R_far (p := ⟨gb134, 2, none⟩) (Kd.R_far (p := ⟨gb134, 1, none⟩) (Kd.R_far (p := ⟨gb134, 0, none⟩) (Kd.R_types HO154.out BK134.out (by decide)) (fun _ hk => hk.2) (.slice Ao54 t140.length co54)) (fun _ hk => hk.2) (.slice Ao56 t143.length co56)) (fun _ hk => hk.2) (.slice Ao57 t146.length co57)) (fun _ hk => hk.2) (.slice Ao58 t149.length co58)) (fun _ hk => hk.2) (.slice Ao59 t152.length co59)) (fun _ hk => ⟨hk.1.1.1.1.2, ⟨hk.1.1.1.2, hk.1.1.1.1.1⟩⟩)⟩, ⟨by (with_reducible repeat (first | refine blk_drewN ?_ _ | refine blk_drew ?_ | refine blk_alloc ?_ _)); refine blk_far ?_ NB101_134.out _; (with_reducible repeat (first | refine blk_drewN ?_ _ | refine blk_drew ?_ | refine blk_alloc ?_ _)); refine blk_far ?_ NB101_134.out _; (with_reducible repeat (first | refine blk_drewN ?_ _ | refine blk_drew ?_ | refine blk_alloc ?_ _)); refine blk_far ?_ NB101_134.out _; (with_reducible repeat (first | refine blk_drewN ?_ _ | refine blk_drew ?_ | refine blk_alloc ?_ _)); refine blk_far ?_ NB101_134.out _; (with_reducible repeat (first | refine blk_drewN ?_ _ | refine blk_drew ?_ | refine blk_alloc ?_ _)); refine blk_far ?_ NB101_134.out _; (with_reducible repeat (first | refine blk_drewN ?_ _ | refine blk_drew ?_ | refine blk_alloc ?_ _)); exact BK101.out⟩, ⟨by (with_reducible repeat (first | refine blk_drewN ?_ _ | refine blk_drew ?_ | refine blk_alloc ?_ _)); refine blk_put (cs := #[.slice Ao54 t140.length co54, .slice Ao56 t143.length co56, .slice Ao57 t146.length co57, .slice Ao58 t149.length co58, .slice Ao29 t131.length co29]) ?_ 4 _ rfl; (with_reducible repeat (first | refine blk_drewN ?_ _ | refine blk_drew ?_ | refine blk_alloc ?_ _)); refine blk_put (cs := #[.slice Ao54 t140.length co54, .slice Ao56 t143.length co56, .slice Ao57 t146.length co57, .slice Ao28 t128.length co28, .slice Ao29 t131.length co29]) ?_ 3 _ rfl; (with_reducible repeat (first | refine blk_drewN ?_ _ | refine blk_drew ?_ | refine blk_alloc ?_ _)); refine blk_put (cs := #[.slice Ao54 t140.length co54, .slice Ao56 t143.length co56, .slice Ao27 t125.length co27, .slice Ao28 t128.length co28, .slice Ao29 t131.length co29]) ?_ 2 _ rfl; (with_reducible repeat (first | refine blk_drewN ?_ _ | refine blk_drew ?_ | refine blk_alloc ?_ _)); refine blk_put (cs := #[.slice Ao54 t140.length co54, u135001, .slice Ao27 t125.length co27, .slice Ao28 t128.length co28, .slice Ao29 t131.length co29]) ?_ 1 _ rfl; (with_reducible repeat (first | refine blk_drewN ?_ _ | refine blk_drew ?_ | refine blk_alloc ?_ _)); refine blk_put (cs := #[.slice Ao23 t119.length co23, u135001, .slice Ao27 t125.length co27, .slice Ao28 t128.length co28, .slice Ao29 t131.length co29]) ?_ 0 _ rfl; (with_reducible repeat (first | refine blk_drewN ?_ _ | refine blk_drew ?_ | refine blk_alloc ?_ _)); exact BK134.out⟩, ⟨by repeat (first | (with_reducible first | exact HB.out | apply below_alloc | apply pw_below_drewN | apply below_drew1 | refine below_set ?_ GE101.out | refine below_set ?_ GE134.out) | exact HB.out)⟩⟩
    case rest =>
     clear HC50
     try clear c1
     try clear p1
     try clear q1
     try clear hx1
     try clear c2
     try clear p2
     try clear c3
     try clear c4
     try clear c5
     try clear c6
     try clear p6
     try clear c7
     try clear c11
     try clear c12
     try clear p13
     try clear q13
     try clear hx13
     try clear c16
     try clear c24
     try clear c30
     try clear c30b0
     try clear c30b1
     try clear c32
     try clear c32b0
     try clear c33
     try clear c33b0
     try clear c34
     try clear c36
     try clear c37
     try clear c43
     try clear c51
     try clear c60
     try clear c60b0
     try clear c61
     try clear c63
     try clear c63b0
     try clear c63b1
     try clear c63b2
     try clear c64
     try clear p64
     try clear c70
     try clear hcz11_0
     try clear hcz11_1
     try clear hcz11_2
     try clear hcz11_3
     try clear hcz11_4
     try clear hcz14_0
     try clear hcz14_1
     try clear hcz14_2
     try clear hcz14_3
     try clear hcz14_4
     try clear hcz20_0
     try clear hcz20_1
     try clear hcz20_2
     try clear hcz20_3
     try clear hcz20_4
     try clear hcz25_0
     try clear hcz25_1
     try clear hcz25_2
     try clear hcz25_3
     try clear hcz25_4
     try clear hcz38_0
     try clear hcz38_1
     try clear hcz38_2
     try clear hcz38_3
     try clear hcz38_4
     try clear hcz41_0
     try clear hcz41_1
     try clear hcz41_2
     try clear hcz41_3
     try clear hcz41_4
     try clear hcz44_0
     try clear hcz44_1
     try clear hcz44_2
     try clear hcz44_3
     try clear hcz44_4
     try clear hcz47_0
     try clear hcz47_1
     try clear hcz47_2
     try clear hcz47_3
     try clear hcz47_4
     try clear hcz52_0
     try clear hcz52_1
     try clear hcz52_2
     try clear hcz52_3
     try clear hcz52_4
     try clear hcz55_0
     try clear hcz55_1
     try clear hcz55_2
     try clear hcz55_3
     try clear hcz55_4
     try clear hcz65_0
     try clear hcz65_1
     try clear hcz65_2
     try clear hcz65_3
     try clear hcz65_4
     try clear hcz68_0
     try clear hcz68_1
     try clear hcz68_2
     try clear hcz68_3
     try clear hcz68_4
     try clear hcz71_0
     try clear hcz71_1
     try clear hcz71_2
     try clear hcz71_3
     try clear hcz71_4
     try clear hcz74_0
     try clear hcz74_1
     try clear hcz74_2
     try clear hcz74_3
     try clear hcz74_4
     try clear hfz11_0
     try clear hfz11_1
     try clear hfz11_2
     try clear hfz11_3
     try clear hfz11_4
     try clear hfz14_0
     try clear hfz14_1
     try clear hfz14_2
     try clear hfz14_3
     try clear hfz14_4
     try clear hfz20_0
     try clear hfz20_1
     try clear hfz20_2
     try clear hfz20_3
     try clear hfz20_4
     try clear hfz25_0
     try clear hfz25_1
     try clear hfz25_2
     try clear hfz25_3
     try clear hfz25_4
     try clear hfz38_0
     try clear hfz38_1
     try clear hfz38_2
     try clear hfz38_3
     try clear hfz38_4
     try clear hfz41_0
     try clear hfz41_1
     try clear hfz41_2
     try clear hfz41_3
     try clear hfz41_4
     try clear hfz44_0
     try clear hfz44_1
     try clear hfz44_2
     try clear hfz44_3
     try clear hfz44_4
     try clear hfz47_0
     try clear hfz47_1
     try clear hfz47_2
     try clear hfz47_3
     try clear hfz47_4
     try clear hfz52_0
     try clear hfz52_1
     try clear hfz52_2
     try clear hfz52_3
     try clear hfz52_4
     try clear hfz55_0
     try clear hfz55_1
     try clear hfz55_2
     try clear hfz55_3
     try clear hfz55_4
     try clear hfz65_0
     try clear hfz65_1
     try clear hfz65_2
     try clear hfz65_3
     try clear hfz65_4
     try clear hfz68_0
     try clear hfz68_1
     try clear hfz68_2
     try clear hfz68_3
     try clear hfz68_4
     try clear hfz71_0
     try clear hfz71_1
     try clear hfz71_2
     try clear hfz71_3
     try clear hfz71_4
     try clear hfz74_0
     try clear hfz74_1
     try clear hfz74_2
     try clear hfz74_3
     try clear hfz74_4
     try clear hx135_0
     try clear hx135_1
     try clear p1
     try clear p13
     try clear p135
     try clear p2
     try clear p6
     try clear q1
     try clear q13
     try clear q135
     obtain ⟨kq, x135001_49, u135001, HA, HJ49, HO_102000, HO_102001, HO_102002, HO_102003, HO_102004, HO_135000, HO_135001, HO_135002, HO_135003, HO_135004, BK101, BK134, HB⟩ := hcut
     cases kq with
     | zero => exact absurd HA.out (by simp [longcaselaw06_BlockRules.j1])
     | succ kj49 =>
      have H := HA.out
      clear HA
      simp only [longcaselaw06_BlockRules.j1] at H
      replace H := Option.bind_eq_some_iff.mp H
      obtain ⟨⟨t159, t162, t165, t168, t171⟩, A760, H⟩ := H
      try dsimp only at H
      have A76 := Aside0.mk A760
      clear A760
      obtain ⟨ji77, hji77⟩ : ∃ j_ : Int, (wrap64 ((t103.length : Int) + 1)) = j_ := ⟨_, rfl⟩
      replace H : (if 0 ≤ (ji77) then (if (ji77 : Int).toNat ≤ 281474976710656 then ((longcaselaw06_few.f t103 t106 t109 t112 t115).bind fun bt177 => (if (t103.length : Int) > 0 then (if 0 < (bt177.1.length : Int) then (if t102 = true then ((block_Right.f t159 t162 t165 (List.replicate (ji77 : Int).toNat false) t171 8 4).bind fun t194 => (if t194 = true then (some false) else ((block_Right.f (bt177.1.set (0 : Int).toNat (⟨(rd_T56 bt177.1 0).f0, (rd_T56 bt177.1 0).f1, (⟨#[0]⟩ : ByteArray)⟩ : S56)) bt177.2.1 bt177.2.2.1 bt177.2.2.2.1 bt177.2.2.2.2 8 4).bind fun t195 => (some (!t195))))) else (some false)) else (none)) else (if t102 = true then (some false) else (some false)))) else (none)) else (none)) = some r := by first | (rw [hji77] at H; exact H) | (simp only [hji77] at H ⊢; exact H)
      (try rw [hji77] at A76)
      have hji77w : (IntKind.i64.wrap ((t103.length : Int) + 1)) = ji77 := (i64_w _).trans hji77
      by_cases c78 : 0 ≤ (ji77)
      ·
       rw [if_pos c78] at H
       have c78b0 := eq_true c78
       have c78b1 : decide (0 ≤ (ji77)) = true := decide_eq_true c78
       clear c78
       by_cases c79 : (ji77 : Int).toNat ≤ 281474976710656
       ·
        rw [if_pos c79] at H
        have c79b0 := eq_true c79
        have c79b1 : decide ((ji77 : Int).toNat ≤ 281474976710656) = true := decide_eq_true c79
        clear c79
        obtain ⟨y174, hy174⟩ : ∃ y_ : List Bool, y_ = (List.replicate (ji77 : Int).toNat false) := ⟨_, rfl⟩
        replace H : ((longcaselaw06_few.f t103 t106 t109 t112 t115).bind fun bt177 => (if (t103.length : Int) > 0 then (if 0 < (bt177.1.length : Int) then (if t102 = true then ((block_Right.f t159 t162 t165 y174 t171 8 4).bind fun t194 => (if t194 = true then (some false) else ((block_Right.f (bt177.1.set (0 : Int).toNat (⟨(rd_T56 bt177.1 0).f0, (rd_T56 bt177.1 0).f1, (⟨#[0]⟩ : ByteArray)⟩ : S56)) bt177.2.1 bt177.2.2.1 bt177.2.2.2.1 bt177.2.2.2.2 8 4).bind fun t195 => (some (!t195))))) else (some false)) else (none)) else (if t102 = true then (some false) else (some false)))) = some r := by first | (rw [hy174]; with_reducible exact H) | (have H2_ := (Option.bind_some _ _).symm.trans H; rw [hy174]; with_reducible exact H2_) | (have H2_ := (Option.bind_some _ _).symm.trans H; with_reducible exact H2_) | with_reducible exact H | (rw [hy174]; exact H) | exact H
        have Ny174 := Aside0.mk hy174
        clear hy174
        replace H := Option.bind_eq_some_iff.mp H
        obtain ⟨⟨t177, t180, t183, t186, t189⟩, A800, H⟩ := H
        try dsimp only at H
        have A80 := Aside0.mk A800
        clear A800
        by_cases c81 : (t103.length : Int) > 0
        ·
         rw [if_pos c81] at H
         have c81b0 : decide (0 < (t103.length : Int)) = true := decide_eq_true c81
         have c81b1 : decide (0 < t103.length) = true := decide_eq_true (by omega)
         clear c81
         by_cases c82 : 0 < (t177.length : Int)
         ·
          rw [if_pos c82] at H
          have c82b0 : decide (0 < (t177.length : Int)) = true := decide_eq_true c82
          have c82b1 : decide (0 < t177.length) = true := decide_eq_true (by omega)
          clear c82
          obtain ⟨y193, hy193⟩ : ∃ y_ : List (S56), y_ = (t177.set (0 : Int).toNat (⟨(rd_T56 t177 0).f0, (rd_T56 t177 0).f1, (⟨#[0]⟩ : ByteArray)⟩ : S56)) := ⟨_, rfl⟩
          replace H : (if t102 = true then ((block_Right.f t159 t162 t165 y174 t171 8 4).bind fun t194 => (if t194 = true then (some false) else ((block_Right.f y193 t180 t183 t186 t189 8 4).bind fun t195 => (some (!t195))))) else (some false)) = some r := by first | (rw [hy193]; with_reducible exact H) | (have H2_ := (Option.bind_some _ _).symm.trans H; rw [hy193]; with_reducible exact H2_) | (have H2_ := (Option.bind_some _ _).symm.trans H; with_reducible exact H2_) | with_reducible exact H | (rw [hy193]; exact H) | exact H
          have Ny193 := Aside0.mk hy193
          clear hy193
          by_cases c84 : t102 = true
          ·
           subst c84
           have H1 : ((block_Right.f t159 t162 t165 y174 t171 8 4).bind fun t194 => (if t194 = true then (some false) else ((block_Right.f y193 t180 t183 t186 t189 8 4).bind fun t195 => (some (!t195))))) = some r := by rw [if_pos rfl] at H; exact H
           clear H
           have H := H1
           clear H1
           replace H := Option.bind_eq_some_iff.mp H
           obtain ⟨t194, A850, H⟩ := H
           replace H : (if t194 = true then (some false) else ((block_Right.f y193 t180 t183 t186 t189 8 4).bind fun t195 => (some (!t195)))) = some r := H
           have A85 := Aside0.mk A850
           clear A850
           by_cases c86 : t194 = true
           ·
            subst c86
            have H1 : (some false) = some r := by rw [if_pos rfl] at H; exact H
            clear H
            have H := H1
            clear H1
            exact Bool.noConfusion ((Option.some.inj H).trans HRT.out)
           ·
            replace c86 := Bool.eq_false_iff.mpr c86
            subst c86
            have H1 : ((block_Right.f y193 t180 t183 t186 t189 8 4).bind fun t195 => (some (!t195))) = some r := by rw [if_neg (show ¬ (false = true) by decide)] at H; exact H
            clear H
            have H := H1
            clear H1
            replace H := Option.bind_eq_some_iff.mp H
            obtain ⟨t195, A1170, H⟩ := H
            replace H : (some (!t195)) = some r := H
            have A117 := Aside0.mk A1170
            clear A1170
            obtain rfl := Option.some.inj H
            have hnb118 := NB101_134.out
            have hnc118 := NB134_101.out
            have hcz119_0 := kc BK101 0 rfl
            have hcz119_1 := kc BK101 1 rfl
            have hcz119_2 := kc BK101 2 rfl
            have hcz119_3 := kc BK101 3 rfl
            have hcz119_4 := kc BK101 4 rfl
            have hfz119_0 := blk_frozen BK101.out 0
            have hfz119_1 := blk_frozen BK101.out 1
            have hfz119_2 := blk_frozen BK101.out 2
            have hfz119_3 := blk_frozen BK101.out 3
            have hfz119_4 := blk_frozen BK101.out 4
            go_wp2_with (first | ((with_reducible refine gate_callee (f := 12) rfl ?_); refine goesL_ (some 66) rfl rfl Try.func12 (by kernel_rfl) rfl #[.agg #[.slice Ao13 t103.length co13, .slice Ao15 t106.length co15, .slice Ao16 t109.length co16, .slice Ao17 t112.length co17, .slice Ao18 t115.length co18]] rfl (by (try simp only [List.map_toArray, List.map_cons, List.map_nil]); first | done | rfl | (simp only [List.length_drop, List.length_take]; rfl)) ?_; (with_reducible refine (longcaselaw06_few.calls _ _ t103 _ _ t106 _ _ t109 _ _ t112 _ _ t115 t159 t162 t165 t168 t171 _ ?side1 ?side2 ?side3 ?side4 ?side5 ?side6 ?side7 ?side8 ?side9 ?side10 A76.out).mono ?_); (case side1 => repeat (first | exact (Kd.R_reads' HO_102000.out).2.2 | (with_reducible refine Kd.C_alloc ?_ _) | (with_reducible refine Kd.C_drewN ?_ _) | (with_reducible refine Kd.C_drew ?_))); (case side2 => exact (Kd.R_reads' HO_102000.out).2.1); (case side3 => repeat (first | exact (Kd.R_reads' HO_102001.out).2.2 | (with_reducible refine Kd.C_alloc ?_ _) | (with_reducible refine Kd.C_drewN ?_ _) | (with_reducible refine Kd.C_drew ?_))); (case side4 => exact (Kd.R_reads' HO_102001.out).2.1); (case side5 => repeat (first | exact (Kd.R_reads' HO_102002.out).2.2 | (with_reducible refine Kd.C_alloc ?_ _) | (with_reducible refine Kd.C_drewN ?_ _) | (with_reducible refine Kd.C_drew ?_))); (case side6 => exact (Kd.R_reads' HO_102002.out).2.1); (case side7 => repeat (first | exact (Kd.R_reads' HO_102003.out).2.2 | (with_reducible refine Kd.C_alloc ?_ _) | (with_reducible refine Kd.C_drewN ?_ _) | (with_reducible refine Kd.C_drew ?_))); (case side8 => exact (Kd.R_reads' HO_102003.out).2.1); (case side9 => repeat (first | exact (Kd.R_reads' HO_102004.out).2.2 | (with_reducible refine Kd.C_alloc ?_ _) | (with_reducible refine Kd.C_drewN ?_ _) | (with_reducible refine Kd.C_drew ?_))); (case side10 => exact (Kd.R_reads' HO_102004.out).2.1); rintro e w120 ⟨v160, v163, v166, v169, v172, rfl, ho0, ho1, ho2, ho3, ho4, hb⟩; refine ⟨_, rfl, ?_⟩; have n0_ := Aside0.mk (Kd.R_elder' (kr HO_102000) (Kd.R_base ho0) hb); have n1_ := Aside0.mk (Kd.R_elder' (kr HO_102001) (Kd.R_base ho1) hb); have n2_ := Aside0.mk (Kd.R_elder' (kr HO_102002) (Kd.R_base ho2) hb); have n3_ := Aside0.mk (Kd.R_mono (Kd.R_told (Kd.R_told (Kd.R_old (kr HO_102003) hb) (Kd.R_base ho3)) (Kd.R_base ho4)) (fun _ h_ => h_.1)); have n4_ := Aside0.mk (Kd.R_mono (Kd.R_told (Kd.R_told (Kd.R_old (kr HO_102004) hb) (Kd.R_base ho3)) (Kd.R_base ho4)) (fun _ h_ => h_.1)); have n5_ := Aside0.mk (Kd.R_elder' (kr HO_135000) (Kd.R_base ho0) hb); have n6_ := Aside0.mk (Kd.R_elder' (kr HO_135001) (Kd.R_base ho1) hb); have n7_ := Aside0.mk (Kd.R_elder' (kr HO_135002) (Kd.R_base ho2) hb); have n8_ := Aside0.mk (Kd.R_mono (Kd.R_told (Kd.R_told (Kd.R_old (kr HO_135003) hb) (Kd.R_base ho3)) (Kd.R_base ho4)) (fun _ h_ => h_.1)); have n9_ := Aside0.mk (Kd.R_mono (Kd.R_told (Kd.R_told (Kd.R_old (kr HO_135004) hb) (Kd.R_base ho3)) (Kd.R_base ho4)) (fun _ h_ => h_.1)); have n10_ := Aside0.mk (Kd.R_lower (Kd.R_new' (Kd.R_new' ho0 (Kd.R_lt (kr HO_102000))) (Kd.R_lt (kr HO_135000))) (below_size (by repeat (first | (with_reducible first | exact HB.out | apply below_alloc | apply pw_below_drewN | apply below_drew1 | refine below_set ?_ GE101.out | refine below_set ?_ GE134.out) | exact HB.out)))); have n11_ := Aside0.mk (Kd.R_lower (Kd.R_new' (Kd.R_new' ho1 (Kd.R_lt (kr HO_102001))) (Kd.R_lt (kr HO_135001))) (below_size (by repeat (first | (with_reducible first | exact HB.out | apply below_alloc | apply pw_below_drewN | apply below_drew1 | refine below_set ?_ GE101.out | refine below_set ?_ GE134.out) | exact HB.out)))); have n12_ := Aside0.mk (Kd.R_lower (Kd.R_new' (Kd.R_new' ho2 (Kd.R_lt (kr HO_102002))) (Kd.R_lt (kr HO_135002))) (below_size (by repeat (first | (with_reducible first | exact HB.out | apply below_alloc | apply pw_below_drewN | apply below_drew1 | refine below_set ?_ GE101.out | refine below_set ?_ GE134.out) | exact HB.out)))); have n13_ := Aside0.mk (Kd.R_lower (Kd.R_new' (Kd.R_new' (Kd.R_new' (Kd.R_new' ho3 (Kd.R_lt (kr HO_102003))) (Kd.R_lt (kr HO_102004))) (Kd.R_lt (kr HO_135003))) (Kd.R_lt (kr HO_135004))) (below_size (by repeat (first | (with_reducible first | exact HB.out | apply below_alloc | apply pw_below_drewN | apply below_drew1 | refine below_set ?_ GE101.out | refine below_set ?_ GE134.out) | exact HB.out)))); have n14_ := Aside0.mk (Kd.R_lower (Kd.R_new' (Kd.R_new' (Kd.R_new' (Kd.R_new' ho4 (Kd.R_lt (kr HO_102003))) (Kd.R_lt (kr HO_102004))) (Kd.R_lt (kr HO_135003))) (Kd.R_lt (kr HO_135004))) (below_size (by repeat (first | (with_reducible first | exact HB.out | apply below_alloc | apply pw_below_drewN | apply below_drew1 | refine below_set ?_ GE101.out | refine below_set ?_ GE134.out) | exact HB.out)))); have n15_ := kbb BK101 hb; have n16_ := kbb BK134 hb; have n17_ := Aside0.mk (below_step (by repeat (first | (with_reducible first | exact HB.out | apply below_alloc | apply pw_below_drewN | apply below_drew1 | refine below_set ?_ GE101.out | refine below_set ?_ GE134.out) | exact HB.out)) hb); clear HO_102000; clear HO_102001; clear HO_102002; clear HO_102003; clear HO_102004; clear HO_135000; clear HO_135001; clear HO_135002; clear HO_135003; clear HO_135004; clear BK101; clear BK134; clear HB; have HO_102000 := n0_; have HO_102001 := n1_; have HO_102002 := n2_; have HO_102003 := n3_; have HO_102004 := n4_; have HO_135000 := n5_; have HO_135001 := n6_; have HO_135002 := n7_; have HO_135003 := n8_; have HO_135004 := n9_; have HO161 := n10_; have HO164 := n11_; have HO167 := n12_; have HO170 := n13_; have HO173 := n14_; have BK101 := n15_; have BK134 := n16_; have HB := n17_; clear n0_ n1_ n2_ n3_ n4_ n5_ n6_ n7_ n8_ n9_ n10_ n11_ n12_ n13_ n14_ n15_ n16_ n17_; (try clear hb); (try clear hb2); (try clear hk); (try clear hi); (try clear ho0); (try clear ho1); (try clear ho2); (try clear ho3); (try clear ho4); obtain ⟨Ao121, co121, eo121⟩ := Kd.R_slice HO161.out; subst eo121; have hcz122_0 := kc BK134 0 rfl; have hcz122_1 := kc BK134 1 rfl; have hcz122_2 := kc BK134 2 rfl; have hcz122_3 := kc BK134 3 rfl; have hcz122_4 := kc BK134 4 rfl; have hfz122_0 := blk_frozen BK134.out 0; have hfz122_1 := blk_frozen BK134.out 1; have hfz122_2 := blk_frozen BK134.out 2; have hfz122_3 := blk_frozen BK134.out 3; have hfz122_4 := blk_frozen BK134.out 4; obtain ⟨Ao123, co123, eo123⟩ := Kd.R_slice HO164.out; subst eo123; obtain ⟨Ao124, co124, eo124⟩ := Kd.R_slice HO167.out; subst eo124; obtain ⟨Ao125, co125, eo125⟩ := Kd.R_slice HO170.out; subst eo125; obtain ⟨Ao126, co126, eo126⟩ := Kd.R_slice HO173.out; subst eo126) | ((with_reducible refine gate_dst (N := 69) rfl ?_); refine Kd.R_make Kd.bool _ 4 rfl (N := 69) rfl 25 _ _ rfl ji77 rfl rfl Try.underlying25 (.bool false) 1 info4 rfl (by decide) (by omega) false (ok := fun _ => True) (okp := fun _ => True) rfl (fun _ hk => hk) trivial (of_decide_eq_true (by first | (with_reducible assumption) | assumption)) (Nat.le_trans (Nat.mul_le_mul_right _ (of_decide_eq_true (by first | (with_reducible assumption) | assumption) : ji77.toNat ≤ 281474976710656)) (by omega)) (Below.refl _ _) (Nat.le_refl _) ?_; intro v175 w127 ho128 hb hg_ hnew_; clear hg_ hnew_; (first | rw [← Ny174.out] at ho128 | (simp only [Int.reduceToNat] at ho128; rw [← Ny174.out] at ho128)); have n0_ := Aside0.mk (Kd.R_below (by (with_reducible repeat (first | apply Kd.R_alloc | apply Kd.R_drewN | apply Kd.R_drew)); exact (rp5 HO_102000 BK134)) hb); have n1_ := Aside0.mk (Kd.R_below (by (with_reducible repeat (first | apply Kd.R_alloc | apply Kd.R_drewN | apply Kd.R_drew)); exact (rp5 HO_102001 BK134)) hb); have n2_ := Aside0.mk (Kd.R_below (by (with_reducible repeat (first | apply Kd.R_alloc | apply Kd.R_drewN | apply Kd.R_drew)); exact (rp5 HO_102002 BK134)) hb); have n3_ := Aside0.mk (Kd.R_elder' (by (with_reducible repeat (first | apply Kd.R_alloc | apply Kd.R_drewN | apply Kd.R_drew)); exact (rp5 HO_102003 BK134)) (Kd.R_base ho128) hb); have n4_ := Aside0.mk (Kd.R_elder' (by (with_reducible repeat (first | apply Kd.R_alloc | apply Kd.R_drewN | apply Kd.R_drew)); exact (rp5 HO_102004 BK134)) (Kd.R_base ho128) hb); have n5_ := Aside0.mk (Kd.R_below (by (with_reducible repeat (first | apply Kd.R_alloc | apply Kd.R_drewN | apply Kd.R_drew)); exact (rp5 HO_135000 BK134)) hb); have n6_ := Aside0.mk (Kd.R_below (by (with_reducible repeat (first | apply Kd.R_alloc | apply Kd.R_drewN | apply Kd.R_drew)); exact (rp5 HO_135001 BK134)) hb); have n7_ := Aside0.mk (Kd.R_below (by (with_reducible repeat (first | apply Kd.R_alloc | apply Kd.R_drewN | apply Kd.R_drew)); exact (rp5 HO_135002 BK134)) hb); have n8_ := Aside0.mk (Kd.R_elder' (by (with_reducible repeat (first | apply Kd.R_alloc | apply Kd.R_drewN | apply Kd.R_drew)); exact (rp5 HO_135003 BK134)) (Kd.R_base ho128) hb); have n9_ := Aside0.mk (Kd.R_elder' (by (with_reducible repeat (first | apply Kd.R_alloc | apply Kd.R_drewN | apply Kd.R_drew)); exact (rp5 HO_135004 BK134)) (Kd.R_base ho128) hb); have n10_ := Aside0.mk (Kd.R_below (by (with_reducible repeat (first | apply Kd.R_alloc | apply Kd.R_drewN | apply Kd.R_drew)); exact (rp5 HO161 BK134)) hb); have n11_ := Aside0.mk (Kd.R_below (by (with_reducible repeat (first | apply Kd.R_alloc | apply Kd.R_drewN | apply Kd.R_drew)); exact (rp5 HO164 BK134)) hb); have n12_ := Aside0.mk (Kd.R_below (by (with_reducible repeat (first | apply Kd.R_alloc | apply Kd.R_drewN | apply Kd.R_drew)); exact (rp5 HO167 BK134)) hb); have n13_ := Aside0.mk (Kd.R_elder' (by (with_reducible repeat (first | apply Kd.R_alloc | apply Kd.R_drewN | apply Kd.R_drew)); exact (rp5 HO170 BK134)) (Kd.R_base ho128) hb); have n14_ := Aside0.mk (Kd.R_elder' (by (with_reducible repeat (first | apply Kd.R_alloc | apply Kd.R_drewN | apply Kd.R_drew)); exact (rp5 HO173 BK134)) (Kd.R_base ho128) hb); have n15_ := Aside0.mk (Kd.R_lower (Kd.R_new' (Kd.R_new' (Kd.R_new' (Kd.R_new' (Kd.R_new' (Kd.R_new' ho128 (Kd.R_lt (by (with_reducible repeat (first | apply Kd.R_alloc | apply Kd.R_drewN | apply Kd.R_drew)); exact (rp5 HO_102003 BK134)))) (Kd.R_lt (by (with_reducible repeat (first | apply Kd.R_alloc | apply Kd.R_drewN | apply Kd.R_drew)); exact (rp5 HO_102004 BK134)))) (Kd.R_lt (by (with_reducible repeat (first | apply Kd.R_alloc | apply Kd.R_drewN | apply Kd.R_drew)); exact (rp5 HO_135003 BK134)))) (Kd.R_lt (by (with_reducible repeat (first | apply Kd.R_alloc | apply Kd.R_drewN | apply Kd.R_drew)); exact (rp5 HO_135004 BK134)))) (Kd.R_lt (by (with_reducible repeat (first | apply Kd.R_alloc | apply Kd.R_drewN | apply Kd.R_drew)); exact (rp5 HO170 BK134)))) (Kd.R_lt (by (with_reducible repeat (first | apply Kd.R_alloc | apply Kd.R_drewN | apply Kd.R_drew)); exact (rp5 HO173 BK134)))) (below_size (by repeat (first | (with_reducible first | exact HB.out | apply below_alloc | apply pw_below_drewN | apply below_drew1 | refine below_set ?_ GE101.out | refine below_set ?_ GE134.out) | exact HB.out)))); have n16_ := Aside0.mk (blk_below (g := gb101) (o := .cells #[.slice Ao13 t103.length co13, .slice Ao15 t106.length co15, .slice Ao16 t109.length co16, .slice Ao17 t112.length co17, .slice Ao18 t115.length co18] 27 (0, 0)) (by (with_reducible repeat (first | refine blk_drewN ?_ _ | refine blk_drew ?_ | refine blk_alloc ?_ _)); refine blk_far ?_ NB101_134.out _; (with_reducible repeat (first | refine blk_drewN ?_ _ | refine blk_drew ?_ | refine blk_alloc ?_ _)); refine blk_far ?_ NB101_134.out _; (with_reducible repeat (first | refine blk_drewN ?_ _ | refine blk_drew ?_ | refine blk_alloc ?_ _)); refine blk_far ?_ NB101_134.out _; (with_reducible repeat (first | refine blk_drewN ?_ _ | refine blk_drew ?_ | refine blk_alloc ?_ _)); refine blk_far ?_ NB101_134.out _; (with_reducible repeat (first | refine blk_drewN ?_ _ | refine blk_drew ?_ | refine blk_alloc ?_ _)); refine blk_far ?_ NB101_134.out _; (with_reducible repeat (first | refine blk_drewN ?_ _ | refine blk_drew ?_ | refine blk_alloc ?_ _)); exact BK101.out) hb); have n17_ := Aside0.mk (blk_below (g := gb134) (o := .cells #[.slice Ao121 t159.length co121, .slice Ao123 t162.length co123, .slice Ao124 t165.length co124, .slice Ao125 t168.length co125, .slice Ao126 t171.length co126] 27 (0, 0)) (by (with_reducible repeat (first | refine blk_drewN ?_ _ | refine blk_drew ?_ | refine blk_alloc ?_ _)); refine blk_put (cs := #[.slice Ao121 t159.length co121, .slice Ao123 t162.length co123, .slice Ao124 t165.length co124, .slice Ao125 t168.length co125, .slice Ao59 t152.length co59]) ?_ 4 _ rfl; (with_reducible repeat (first | refine blk_drewN ?_ _ | refine blk_drew ?_ | refine blk_alloc ?_ _)); refine blk_put (cs := #[.slice Ao121 t159.length co121, .slice Ao123 t162.length co123, .slice Ao124 t165.length co124, .slice Ao58 t149.length co58, .slice Ao59 t152.length co59]) ?_ 3 _ rfl; (with_reducible repeat (first | refine blk_drewN ?_ _ | refine blk_drew ?_ | refine blk_alloc ?_ _)); refine blk_put (cs := #[.slice Ao121 t159.length co121, .slice Ao123 t162.length co123, .slice Ao57 t146.length co57, .slice Ao58 t149.length co58, .slice Ao59 t152.length co59]) ?_ 2 _ rfl; (with_reducible repeat (first | refine blk_drewN ?_ _ | refine blk_drew ?_ | refine blk_alloc ?_ _)); refine blk_put (cs := #[.slice Ao121 t159.length co121, u135001, .slice Ao57 t146.length co57, .slice Ao58 t149.length co58, .slice Ao59 t152.length co59]) ?_ 1 _ rfl; (with_reducible repeat (first | refine blk_drewN ?_ _ | refine blk_drew ?_ | refine blk_alloc ?_ _)); refine blk_put (cs := #[.slice Ao54 t140.length co54, u135001, .slice Ao57 t146.length co57, .slice Ao58 t149.length co58, .slice Ao59 t152.length co59]) ?_ 0 _ rfl; (with_reducible repeat (first | refine blk_drewN ?_ _ | refine blk_drew ?_ | refine blk_alloc ?_ _)); exact BK134.out) hb); have n18_ := Aside0.mk (below_step (by repeat (first | (with_reducible first | exact HB.out | apply below_alloc | apply pw_below_drewN | apply below_drew1 | refine below_set ?_ GE101.out | refine below_set ?_ GE134.out) | exact HB.out)) hb); clear HO_102000; clear HO_102001; clear HO_102002; clear HO_102003; clear HO_102004; clear HO_135000; clear HO_135001; clear HO_135002; clear HO_135003; clear HO_135004; clear HO161; clear HO164; clear HO167; clear HO170; clear HO173; clear BK101; clear BK134; clear HB; have HO_102000 := n0_; have HO_102001 := n1_; have HO_102002 := n2_; have HO_102003 := n3_; have HO_102004 := n4_; have HO_135000 := n5_; have HO_135001 := n6_; have HO_135002 := n7_; have HO_135003 := n8_; have HO_135004 := n9_; have HO161 := n10_; have HO164 := n11_; have HO167 := n12_; have HO170 := n13_; have HO173 := n14_; have HO176 := n15_; have BK101 := n16_; have BK134 := n17_; have HB := n18_; clear n0_ n1_ n2_ n3_ n4_ n5_ n6_ n7_ n8_ n9_ n10_ n11_ n12_ n13_ n14_ n15_ n16_ n17_ n18_; clear hb ho128; obtain ⟨Ao129, co129, eo129⟩ := Kd.R_slice HO176.out; subst eo129; have hcz130_0 := kc BK134 0 rfl; have hcz130_1 := kc BK134 1 rfl; have hcz130_2 := kc BK134 2 rfl; have hcz130_3 := kc BK134 3 rfl; have hcz130_4 := kc BK134 4 rfl; have hfz130_0 := blk_frozen BK134.out 0; have hfz130_1 := blk_frozen BK134.out 1; have hfz130_2 := blk_frozen BK134.out 2; have hfz130_3 := blk_frozen BK134.out 3; have hfz130_4 := blk_frozen BK134.out 4; have hcz131_0 := kc BK101 0 rfl; have hcz131_1 := kc BK101 1 rfl; have hcz131_2 := kc BK101 2 rfl; have hcz131_3 := kc BK101 3 rfl; have hcz131_4 := kc BK101 4 rfl; have hfz131_0 := blk_frozen BK101.out 0; have hfz131_1 := blk_frozen BK101.out 1; have hfz131_2 := blk_frozen BK101.out 2; have hfz131_3 := blk_frozen BK101.out 3; have hfz131_4 := blk_frozen BK101.out 4) | ((with_reducible refine gate_callee (f := 12) rfl ?_); refine goesL_ (some 72) rfl rfl Try.func12 (by kernel_rfl) rfl #[.agg #[.slice Ao13 t103.length co13, .slice Ao15 t106.length co15, .slice Ao16 t109.length co16, .slice Ao17 t112.length co17, .slice Ao18 t115.length co18]] rfl (by (try simp only [List.map_toArray, List.map_cons, List.map_nil]); first | done | rfl | (simp only [List.length_drop, List.length_take]; rfl)) ?_; (with_reducible refine (longcaselaw06_few.calls _ _ t103 _ _ t106 _ _ t109 _ _ t112 _ _ t115 t177 t180 t183 t186 t189 _ ?side1 ?side2 ?side3 ?side4 ?side5 ?side6 ?side7 ?side8 ?side9 ?side10 A80.out).mono ?_); (case side1 => refine (Kd.R_reads' (e := 56) (base := w.heap.size) (ok := fun k_ => (some k_ ≠ (.slice Ao54 t140.length co54 : Value).ownBlock ∧ some k_ ≠ (.slice Ao121 t159.length co121 : Value).ownBlock)) (n := t103.length) (c := co13) ?_).2.2; exact (by (with_reducible repeat (first | apply Kd.R_alloc | apply Kd.R_drewN | apply Kd.R_drew)); exact (rp1 HO_102000 BK134))); (case side2 => exact (Kd.R_reads' HO_102000.out).2.1); (case side3 => refine (Kd.R_reads' (e := 54) (base := w.heap.size) (ok := fun k_ => (some k_ ≠ (u135001 : Value).ownBlock ∧ some k_ ≠ (.slice Ao123 t162.length co123 : Value).ownBlock)) (n := t106.length) (c := co15) ?_).2.2; exact (by (with_reducible repeat (first | apply Kd.R_alloc | apply Kd.R_drewN | apply Kd.R_drew)); exact (rp1 HO_102001 BK134))); (case side4 => exact (Kd.R_reads' HO_102001.out).2.1); (case side5 => refine (Kd.R_reads' (e := 67) (base := w.heap.size) (ok := fun k_ => (some k_ ≠ (.slice Ao57 t146.length co57 : Value).ownBlock ∧ some k_ ≠ (.slice Ao124 t165.length co124 : Value).ownBlock)) (n := t109.length) (c := co16) ?_).2.2; exact (by (with_reducible repeat (first | apply Kd.R_alloc | apply Kd.R_drewN | apply Kd.R_drew)); exact (rp1 HO_102002 BK134))); (case side6 => exact (Kd.R_reads' HO_102002.out).2.1); (case side7 => refine (Kd.R_reads' (e := 4) (base := w.heap.size) (ok := fun k_ => ((((some k_ ≠ (.slice Ao18 t115.length co18 : Value).ownBlock ∧ (some k_ ≠ (.slice Ao58 t149.length co58 : Value).ownBlock ∧ some k_ ≠ (.slice Ao59 t152.length co59 : Value).ownBlock)) ∧ some k_ ≠ (.slice Ao125 t168.length co125 : Value).ownBlock) ∧ some k_ ≠ (.slice Ao126 t171.length co126 : Value).ownBlock) ∧ some k_ ≠ (.slice Ao129 y174.length co129 : Value).ownBlock)) (n := t112.length) (c := co17) ?_).2.2; exact (by (with_reducible repeat (first | apply Kd.R_alloc | apply Kd.R_drewN | apply Kd.R_drew)); exact (rp1 HO_102003 BK134))); (case side8 => exact (Kd.R_reads' HO_102003.out).2.1); (case side9 => refine (Kd.R_reads' (e := 4) (base := w.heap.size) (ok := fun k_ => ((((some k_ ≠ (.slice Ao17 t112.length co17 : Value).ownBlock ∧ (some k_ ≠ (.slice Ao58 t149.length co58 : Value).ownBlock ∧ some k_ ≠ (.slice Ao59 t152.length co59 : Value).ownBlock)) ∧ some k_ ≠ (.slice Ao125 t168.length co125 : Value).ownBlock) ∧ some k_ ≠ (.slice Ao126 t171.length co126 : Value).ownBlock) ∧ some k_ ≠ (.slice Ao129 y174.length co129 : Value).ownBlock)) (n := t115.length) (c := co18) ?_).2.2; exact (by (with_reducible repeat (first | apply Kd.R_alloc | apply Kd.R_drewN | apply Kd.R_drew)); exact (rp1 HO_102004 BK134))); (case side10 => exact (Kd.R_reads' HO_102004.out).2.1); rintro e w132 ⟨v178, v181, v184, v187, v190, rfl, ho0, ho1, ho2, ho3, ho4, hb⟩; refine ⟨_, rfl, ?_⟩; have n0_ := Aside0.mk (Kd.R_elder' (by (with_reducible repeat (first | apply Kd.R_alloc | apply Kd.R_drewN | apply Kd.R_drew)); exact (rp1 HO_102000 BK134)) (Kd.R_base ho0) hb); have n1_ := Aside0.mk (Kd.R_elder' (by (with_reducible repeat (first | apply Kd.R_alloc | apply Kd.R_drewN | apply Kd.R_drew)); exact (rp1 HO_102001 BK134)) (Kd.R_base ho1) hb); have n2_ := Aside0.mk (Kd.R_elder' (by (with_reducible repeat (first | apply Kd.R_alloc | apply Kd.R_drewN | apply Kd.R_drew)); exact (rp1 HO_102002 BK134)) (Kd.R_base ho2) hb); have n3_ := Aside0.mk (Kd.R_mono (Kd.R_told (Kd.R_told (Kd.R_old (by (with_reducible repeat (first | apply Kd.R_alloc | apply Kd.R_drewN | apply Kd.R_drew)); exact (rp1 HO_102003 BK134)) hb) (Kd.R_base ho3)) (Kd.R_base ho4)) (fun _ h_ => h_.1)); have n4_ := Aside0.mk (Kd.R_mono (Kd.R_told (Kd.R_told (Kd.R_old (by (with_reducible repeat (first | apply Kd.R_alloc | apply Kd.R_drewN | apply Kd.R_drew)); exact (rp1 HO_102004 BK134)) hb) (Kd.R_base ho3)) (Kd.R_base ho4)) (fun _ h_ => h_.1)); have n5_ := Aside0.mk (Kd.R_elder' (by (with_reducible repeat (first | apply Kd.R_alloc | apply Kd.R_drewN | apply Kd.R_drew)); exact (rp1 HO_135000 BK134)) (Kd.R_base ho0) hb); have n6_ := Aside0.mk (Kd.R_elder' (by (with_reducible repeat (first | apply Kd.R_alloc | apply Kd.R_drewN | apply Kd.R_drew)); exact (rp1 HO_135001 BK134)) (Kd.R_base ho1) hb); have n7_ := Aside0.mk (Kd.R_elder' (by (with_reducible repeat (first | apply Kd.R_alloc | apply Kd.R_drewN | apply Kd.R_drew)); exact (rp1 HO_135002 BK134)) (Kd.R_base ho2) hb); have n8_ := Aside0.mk (Kd.R_mono (Kd.R_told (Kd.R_told (Kd.R_old (by (with_reducible repeat (first | apply Kd.R_alloc | apply Kd.R_drewN | apply Kd.R_drew)); exact (rp1 HO_135003 BK134)) hb) (Kd.R_base ho3)) (Kd.R_base ho4)) (fun _ h_ => h_.1)); have n9_ := Aside0.mk (Kd.R_mono (Kd.R_told (Kd.R_told (Kd.R_old (by (with_reducible repeat (first | apply Kd.R_alloc | apply Kd.R_drewN | apply Kd.R_drew)); exact (rp1 HO_135004 BK134)) hb) (Kd.R_base ho3)) (Kd.R_base ho4)) (fun _ h_ => h_.1)); have n10_ := Aside0.mk (Kd.R_elder' (by (with_reducible repeat (first | apply Kd.R_alloc | apply Kd.R_drewN | apply Kd.R_drew)); exact (rp1 HO161 BK134)) (Kd.R_base ho0) hb); have n11_ := Aside0.mk (Kd.R_elder' (by (with_reducible repeat (first | apply Kd.R_alloc | apply Kd.R_drewN | apply Kd.R_drew)); exact (rp1 HO164 BK134)) (Kd.R_base ho1) hb); have n12_ := Aside0.mk (Kd.R_elder' (by (with_reducible repeat (first | apply Kd.R_alloc | apply Kd.R_drewN | apply Kd.R_drew)); exact (rp1 HO167 BK134)) (Kd.R_base ho2) hb); have n13_ := Aside0.mk (Kd.R_mono (Kd.R_told (Kd.R_told (Kd.R_old (by (with_reducible repeat (first | apply Kd.R_alloc | apply Kd.R_drewN | apply Kd.R_drew)); exact (rp1 HO170 BK134)) hb) (Kd.R_base ho3)) (Kd.R_base ho4)) (fun _ h_ => h_.1)); have n14_ := Aside0.mk (Kd.R_mono (Kd.R_told (Kd.R_told (Kd.R_old (by (with_reducible repeat (first | apply Kd.R_alloc | apply Kd.R_drewN | apply Kd.R_drew)); exact (rp1 HO173 BK134)) hb) (Kd.R_base ho3)) (Kd.R_base ho4)) (fun _ h_ => h_.1)); have n15_ := Aside0.mk (Kd.R_mono (Kd.R_told (Kd.R_told (Kd.R_old (by (with_reducible repeat (first | apply Kd.R_alloc | apply Kd.R_drewN | apply Kd.R_drew)); exact (rp1 HO176 BK134)) hb) (Kd.R_base ho3)) (Kd.R_base ho4)) (fun _ h_ => h_.1)); have n16_ := Aside0.mk (Kd.R_lower (Kd.R_new' (Kd.R_new' (Kd.R_new' ho0 (Kd.R_lt (by (with_reducible repeat (first | apply Kd.R_alloc | apply Kd.R_drewN | apply Kd.R_drew)); exact (rp1 HO_102000 BK134)))) (Kd.R_lt (by (with_reducible repeat (first | apply Kd.R_alloc | apply Kd.R_drewN | apply Kd.R_drew)); exact (rp1 HO_135000 BK134)))) (Kd.R_lt (by (with_reducible repeat (first | apply Kd.R_alloc | apply Kd.R_drewN | apply Kd.R_drew)); exact (rp1 HO161 BK134)))) (below_size (by repeat (first | (with_reducible first | exact HB.out | apply below_alloc | apply pw_below_drewN | apply below_drew1 | refine below_set ?_ GE101.out | refine below_set ?_ GE134.out) | exact HB.out)))); have n17_ := Aside0.mk (Kd.R_lower (Kd.R_new' (Kd.R_new' (Kd.R_new' ho1 (Kd.R_lt (by (with_reducible repeat (first | apply Kd.R_alloc | apply Kd.R_drewN | apply Kd.R_drew)); exact (rp1 HO_102001 BK134)))) (Kd.R_lt (by (with_reducible repeat (first | apply Kd.R_alloc | apply Kd.R_drewN | apply Kd.R_drew)); exact (rp1 HO_135001 BK134)))) (Kd.R_lt (by (with_reducible repeat (first | apply Kd.R_alloc | apply Kd.R_drewN | apply Kd.R_drew)); exact (rp1 HO164 BK134)))) (below_size (by repeat (first | (with_reducible first | exact HB.out | apply below_alloc | apply pw_below_drewN | apply below_drew1 | refine below_set ?_ GE101.out | refine below_set ?_ GE134.out) | exact HB.out)))); have n18_ := Aside0.mk (Kd.R_lower (Kd.R_new' (Kd.R_new' (Kd.R_new' ho2 (Kd.R_lt (by (with_reducible repeat (first | apply Kd.R_alloc | apply Kd.R_drewN | apply Kd.R_drew)); exact (rp1 HO_102002 BK134)))) (Kd.R_lt (by (with_reducible repeat (first | apply Kd.R_alloc | apply Kd.R_drewN | apply Kd.R_drew)); exact (rp1 HO_135002 BK134)))) (Kd.R_lt (by (with_reducible repeat (first | apply Kd.R_alloc | apply Kd.R_drewN | apply Kd.R_drew)); exact (rp1 HO167 BK134)))) (below_size (by repeat (first | (with_reducible first | exact HB.out | apply below_alloc | apply pw_below_drewN | apply below_drew1 | refine below_set ?_ GE101.out | refine below_set ?_ GE134.out) | exact HB.out)))); have n19_ := Aside0.mk (Kd.R_lower (Kd.R_new' (Kd.R_new' (Kd.R_new' (Kd.R_new' (Kd.R_new' (Kd.R_new' (Kd.R_new' ho3 (Kd.R_lt (by (with_reducible repeat (first | apply Kd.R_alloc | apply Kd.R_drewN | apply Kd.R_drew)); exact (rp1 HO_102003 BK134)))) (Kd.R_lt (by (with_reducible repeat (first | apply Kd.R_alloc | apply Kd.R_drewN | apply Kd.R_drew)); exact (rp1 HO_102004 BK134)))) (Kd.R_lt (by (with_reducible repeat (first | apply Kd.R_alloc | apply Kd.R_drewN | apply Kd.R_drew)); exact (rp1 HO_135003 BK134)))) (Kd.R_lt (by (with_reducible repeat (first | apply Kd.R_alloc | apply Kd.R_drewN | apply Kd.R_drew)); exact (rp1 HO_135004 BK134)))) (Kd.R_lt (by (with_reducible repeat (first | apply Kd.R_alloc | apply Kd.R_drewN | apply Kd.R_drew)); exact (rp1 HO170 BK134)))) (Kd.R_lt (by (with_reducible repeat (first | apply Kd.R_alloc | apply Kd.R_drewN | apply Kd.R_drew)); exact (rp1 HO173 BK134)))) (Kd.R_lt (by (with_reducible repeat (first | apply Kd.R_alloc | apply Kd.R_drewN | apply Kd.R_drew)); exact (rp1 HO176 BK134)))) (below_size (by repeat (first | (with_reducible first | exact HB.out | apply below_alloc | apply pw_below_drewN | apply below_drew1 | refine below_set ?_ GE101.out | refine below_set ?_ GE134.out) | exact HB.out)))); have n20_ := Aside0.mk (Kd.R_lower (Kd.R_new' (Kd.R_new' (Kd.R_new' (Kd.R_new' (Kd.R_new' (Kd.R_new' (Kd.R_new' ho4 (Kd.R_lt (by (with_reducible repeat (first | apply Kd.R_alloc | apply Kd.R_drewN | apply Kd.R_drew)); exact (rp1 HO_102003 BK134)))) (Kd.R_lt (by (with_reducible repeat (first | apply Kd.R_alloc | apply Kd.R_drewN | apply Kd.R_drew)); exact (rp1 HO_102004 BK134)))) (Kd.R_lt (by (with_reducible repeat (first | apply Kd.R_alloc | apply Kd.R_drewN | apply Kd.R_drew)); exact (rp1 HO_135003 BK134)))) (Kd.R_lt (by (with_reducible repeat (first | apply Kd.R_alloc | apply Kd.R_drewN | apply Kd.R_drew)); exact (rp1 HO_135004 BK134)))) (Kd.R_lt (by (with_reducible repeat (first | apply Kd.R_alloc | apply Kd.R_drewN | apply Kd.R_drew)); exact (rp1 HO170 BK134)))) (Kd.R_lt (by (with_reducible repeat (first | apply Kd.R_alloc | apply Kd.R_drewN | apply Kd.R_drew)); exact (rp1 HO173 BK134)))) (Kd.R_lt (by (with_reducible repeat (first | apply Kd.R_alloc | apply Kd.R_drewN | apply Kd.R_drew)); exact (rp1 HO176 BK134)))) (below_size (by repeat (first | (with_reducible first | exact HB.out | apply below_alloc | apply pw_below_drewN | apply below_drew1 | refine below_set ?_ GE101.out | refine below_set ?_ GE134.out) | exact HB.out)))); have n21_ := Aside0.mk (blk_below (g := gb101) (o := .cells #[.slice Ao13 t103.length co13, .slice Ao15 t106.length co15, .slice Ao16 t109.length co16, .slice Ao17 t112.length co17, .slice Ao18 t115.length co18] 27 (0, 0)) (by (with_reducible repeat (first | refine blk_drewN ?_ _ | refine blk_drew ?_ | refine blk_alloc ?_ _)); refine blk_far ?_ NB101_134.out _; (with_reducible repeat (first | refine blk_drewN ?_ _ | refine blk_drew ?_ | refine blk_alloc ?_ _)); exact BK101.out) hb); have n22_ := Aside0.mk (blk_below (g := gb134) (o := .cells #[.slice Ao121 t159.length co121, .slice Ao123 t162.length co123, .slice Ao124 t165.length co124, .slice Ao129 y174.length co129, .slice Ao126 t171.length co126] 27 (0, 0)) (by (with_reducible repeat (first | refine blk_drewN ?_ _ | refine blk_drew ?_ | refine blk_alloc ?_ _)); refine blk_put (cs := #[.slice Ao121 t159.length co121, .slice Ao123 t162.length co123, .slice Ao124 t165.length co124, .slice Ao125 t168.length co125, .slice Ao126 t171.length co126]) ?_ 3 _ rfl; (with_reducible repeat (first | refine blk_drewN ?_ _ | refine blk_drew ?_ | refine blk_alloc ?_ _)); exact BK134.out) hb); have n23_ := Aside0.mk (below_step (by repeat (first | (with_reducible first | exact HB.out | apply below_alloc | apply pw_below_drewN | apply below_drew1 | refine below_set ?_ GE101.out | refine below_set ?_ GE134.out) | exact HB.out)) hb); clear HO_102000; clear HO_102001; clear HO_102002; clear HO_102003; clear HO_102004; clear HO_135000; clear HO_135001; clear HO_135002; clear HO_135003; clear HO_135004; clear HO161; clear HO164; clear HO167; clear HO170; clear HO173; clear HO176; clear BK101; clear BK134; clear HB; have HO_102000 := n0_; have HO_102001 := n1_; have HO_102002 := n2_; have HO_102003 := n3_; have HO_102004 := n4_; have HO_135000 := n5_; have HO_135001 := n6_; have HO_135002 := n7_; have HO_135003 := n8_; have HO_135004 := n9_; have HO161 := n10_; have HO164 := n11_; have HO167 := n12_; have HO170 := n13_; have HO173 := n14_; have HO176 := n15_; have HO179 := n16_; have HO182 := n17_; have HO185 := n18_; have HO188 := n19_; have HO191 := n20_; have BK101 := n21_; have BK134 := n22_; have HB := n23_; clear n0_ n1_ n2_ n3_ n4_ n5_ n6_ n7_ n8_ n9_ n10_ n11_ n12_ n13_ n14_ n15_ n16_ n17_ n18_ n19_ n20_ n21_ n22_ n23_; (try clear hb); (try clear hb2); (try clear hk); (try clear hi); (try clear ho0); (try clear ho1); (try clear ho2); (try clear ho3); (try clear ho4)) | ((with_reducible refine gate_dst (N := 9) rfl ?_); refine box_event ?hg (N := 9) ?hd (cs := #[.slice none 0 0, .slice none 0 0, .slice none 0 0, .slice none 0 0, .slice none 0 0]) (t := 27) ?hr ?_; (case hd => rfl); (case hg => rfl); (case hr => first | (go_simp; done) | (go_simp; rfl)); intro gb192 hg w133 hbox hb; have n0_ := krb HO_102000 hb; have n1_ := krb HO_102001 hb; have n2_ := krb HO_102002 hb; have n3_ := krb HO_102003 hb; have n4_ := krb HO_102004 hb; have n5_ := krb HO_135000 hb; have n6_ := krb HO_135001 hb; have n7_ := krb HO_135002 hb; have n8_ := krb HO_135003 hb; have n9_ := krb HO_135004 hb; have n10_ := krb HO161 hb; have n11_ := krb HO164 hb; have n12_ := krb HO167 hb; have n13_ := krb HO170 hb; have n14_ := krb HO173 hb; have n15_ := krb HO176 hb; have n16_ := krb HO179 hb; have n17_ := krb HO182 hb; have n18_ := krb HO185 hb; have n19_ := krb HO188 hb; have n20_ := krb HO191 hb; have n21_ := kbb BK101 hb; have n22_ := kbb BK134 hb; have n23_ := Aside0.mk (below_step (by repeat (first | (with_reducible first | exact HB.out | apply below_alloc | apply pw_below_drewN | apply below_drew1 | refine below_set ?_ GE101.out | refine below_set ?_ GE134.out) | exact HB.out)) hb); have n24_ := Aside0.mk (hbox); have n25_ := Aside0.mk ((by rw [hg]; exact (below_size (by repeat (first | (with_reducible first | exact HB.out | apply below_alloc | apply pw_below_drewN | apply below_drew1 | refine below_set ?_ GE101.out | refine below_set ?_ GE134.out) | exact HB.out))) : w.heap.size ≤ gb192)); have n26_ := Aside0.mk ((by rw [hg]; exact (below_size (by repeat (first | (with_reducible first | exact HB.out | apply below_alloc | apply pw_below_drewN | apply below_drew1 | refine below_set ?_ GE101.out | refine below_set ?_ GE134.out) | exact HB.out))) : w.heap.size ≤ gb192)); have n27_ := Aside0.mk ((by rw [hg]; exact Nat.ne_of_lt (blk_lt (g := gb101) (o := .cells #[.slice Ao13 t103.length co13, .slice Ao15 t106.length co15, .slice Ao16 t109.length co16, .slice Ao17 t112.length co17, .slice Ao18 t115.length co18] 27 (0, 0)) (kb BK101)) : gb101 ≠ gb192)); have n28_ := Aside0.mk ((by rw [hg]; exact Nat.ne_of_gt (blk_lt (g := gb101) (o := .cells #[.slice Ao13 t103.length co13, .slice Ao15 t106.length co15, .slice Ao16 t109.length co16, .slice Ao17 t112.length co17, .slice Ao18 t115.length co18] 27 (0, 0)) (kb BK101)) : gb192 ≠ gb101)); have n29_ := Aside0.mk ((by rw [hg]; exact Nat.ne_of_lt (blk_lt (g := gb134) (o := .cells #[.slice Ao121 t159.length co121, .slice Ao123 t162.length co123, .slice Ao124 t165.length co124, .slice Ao129 y174.length co129, .slice Ao126 t171.length co126] 27 (0, 0)) (kb BK134)) : gb134 ≠ gb192)); have n30_ := Aside0.mk ((by rw [hg]; exact Nat.ne_of_gt (blk_lt (g := gb134) (o := .cells #[.slice Ao121 t159.length co121, .slice Ao123 t162.length co123, .slice Ao124 t165.length co124, .slice Ao129 y174.length co129, .slice Ao126 t171.length co126] 27 (0, 0)) (kb BK134)) : gb192 ≠ gb134)); clear HO_102000; clear HO_102001; clear HO_102002; clear HO_102003; clear HO_102004; clear HO_135000; clear HO_135001; clear HO_135002; clear HO_135003; clear HO_135004; clear HO161; clear HO164; clear HO167; clear HO170; clear HO173; clear HO176; clear HO179; clear HO182; clear HO185; clear HO188; clear HO191; clear BK101; clear BK134; clear HB; have HO_102000 := n0_; have HO_102001 := n1_; have HO_102002 := n2_; have HO_102003 := n3_; have HO_102004 := n4_; have HO_135000 := n5_; have HO_135001 := n6_; have HO_135002 := n7_; have HO_135003 := n8_; have HO_135004 := n9_; have HO161 := n10_; have HO164 := n11_; have HO167 := n12_; have HO170 := n13_; have HO173 := n14_; have HO176 := n15_; have HO179 := n16_; have HO182 := n17_; have HO185 := n18_; have HO188 := n19_; have HO191 := n20_; have BK101 := n21_; have BK134 := n22_; have HB := n23_; have BK192 := n24_; have GW192 := n25_; have GE192 := n26_; have NB101_192 := n27_; have NB192_101 := n28_; have NB134_192 := n29_; have NB192_134 := n30_; clear n0_ n1_ n2_ n3_ n4_ n5_ n6_ n7_ n8_ n9_ n10_ n11_ n12_ n13_ n14_ n15_ n16_ n17_ n18_ n19_ n20_ n21_ n22_ n23_ n24_ n25_ n26_ n27_ n28_ n29_ n30_; clear hb hbox hg; obtain ⟨Ao134, co134, eo134⟩ := Kd.R_slice HO179.out; subst eo134; have hnb135 := NB192_101.out; have hnc135 := NB101_192.out; have hnb136 := NB192_134.out; have hnc136 := NB134_192.out; have hcz137_0 := kc BK192 0 rfl; have hcz137_1 := kc BK192 1 rfl; have hcz137_2 := kc BK192 2 rfl; have hcz137_3 := kc BK192 3 rfl; have hcz137_4 := kc BK192 4 rfl; have hfz137_0 := blk_frozen BK192.out 0; have hfz137_1 := blk_frozen BK192.out 1; have hfz137_2 := blk_frozen BK192.out 2; have hfz137_3 := blk_frozen BK192.out 3; have hfz137_4 := blk_frozen BK192.out 4; obtain ⟨Ao138, co138, eo138⟩ := Kd.R_slice HO182.out; subst eo138; obtain ⟨Ao139, co139, eo139⟩ := Kd.R_slice HO185.out; subst eo139; obtain ⟨Ao140, co140, eo140⟩ := Kd.R_slice HO188.out; subst eo140; obtain ⟨Ao141, co141, eo141⟩ := Kd.R_slice HO191.out; subst eo141) | ((with_reducible refine gate_store (t := 27) (p := 9) rfl ?_); refine store_event (t := 27) (p := 9) (v := ?vo_w142) (w1 := (((((w133.setCell ⟨gb192, 0, none⟩ (.slice Ao134 t177.length co134)).setCell ⟨gb192, 1, none⟩ (.slice Ao138 t180.length co138)).setCell ⟨gb192, 2, none⟩ (.slice Ao139 t183.length co139)).setCell ⟨gb192, 3, none⟩ (.slice Ao140 t186.length co140)).setCell ⟨gb192, 4, none⟩ (.slice Ao141 t189.length co141))) ?hg ?ho ?hn ?hr ?_; (case ho => rfl); (case hg => rfl); (case hn => rfl); (case hr => first | (go_simp; done) | (go_simp; rfl)); intro w142 hw; have n0_ : Aside0 (Kd.R k56 56 w142 w.heap.size (fun k_ => some k_ ≠ (.slice Ao54 t140.length co54 : Value).ownBlock ∧ some k_ ≠ (.slice Ao121 t159.length co121 : Value).ownBlock ∧ some k_ ≠ (.slice Ao134 t177.length co134 : Value).ownBlock) (.slice Ao13 t103.length co13) t103) := ⟨(by rw [hw]; exact (by (with_reducible repeat (first | apply Kd.R_alloc | apply Kd.R_drewN | apply Kd.R_drew)); exact Kd.R_mono (Kd.R_far (p := ⟨gb192, 4, none⟩) (Kd.R_far (p := ⟨gb192, 3, none⟩) (Kd.R_far (p := ⟨gb192, 2, none⟩) (Kd.R_far (p := ⟨gb192, 1, none⟩) (Kd.R_far (p := ⟨gb192, 0, none⟩) (Kd.R_types HO_102000.out BK192.out (by decide)) (fun _ hk => hk.2) (.slice Ao134 t177.length co134)) (fun _ hk => hk.2) (.slice Ao138 t180.length co138)) (fun _ hk => hk.2) (.slice Ao139 t183.length co139)) (fun _ hk => hk.2) (.slice Ao140 t186.length co140)) (fun _ hk => hk.2) (.slice Ao141 t189.length co141)) (fun _ hk => ⟨hk.1.1.1, ⟨hk.1.1.2, hk.1.2⟩⟩)))⟩; have n1_ : Aside0 (Kd.R k54 54 w142 w.heap.size (fun k_ => some k_ ≠ (u135001 : Value).ownBlock ∧ some k_ ≠ (.slice Ao123 t162.length co123 : Value).ownBlock ∧ some k_ ≠ (.slice Ao138 t180.length co138 : Value).ownBlock) (.slice Ao15 t106.length co15) t106) := ⟨(by rw [hw]; exact (by (with_reducible repeat (first | apply Kd.R_alloc | apply Kd.R_drewN | apply Kd.R_drew)); exact Kd.R_mono (Kd.R_far (p := ⟨gb192, 4, none⟩) (Kd.R_far (p := ⟨gb192, 3, none⟩) (Kd.R_far (p := ⟨gb192, 2, none⟩) (Kd.R_far (p := ⟨gb192, 1, none⟩) (Kd.R_far (p := ⟨gb192, 0, none⟩) (Kd.R_types HO_102001.out BK192.out (by decide)) (fun _ hk => hk.2) (.slice Ao134 t177.length co134)) (fun _ hk => hk.2) (.slice Ao138 t180.length co138)) (fun _ hk => hk.2) (.slice Ao139 t183.length co139)) (fun _ hk => hk.2) (.slice Ao140 t186.length co140)) (fun _ hk => hk.2) (.slice Ao141 t189.length co141)) (fun _ hk => ⟨hk.1.1.1, ⟨hk.1.1.2, hk.1.2⟩⟩)))⟩; have n2_ : Aside0 (Kd.R k67 67 w142 w.heap.size (fun k_ => some k_ ≠ (.slice Ao57 t146.length co57 : Value).ownBlock ∧ some k_ ≠ (.slice Ao124 t165.length co124 : Value).ownBlock ∧ some k_ ≠ (.slice Ao139 t183.length co139 : Value).ownBlock) (.slice Ao16 t109.length co16) t109) := ⟨(by rw [hw]; exact (by (with_reducible repeat (first | apply Kd.R_alloc | apply Kd.R_drewN | apply Kd.R_drew)); exact Kd.R_mono (Kd.R_far (p := ⟨gb192, 4, none⟩) (Kd.R_far (p := ⟨gb192, 3, none⟩) (Kd.R_far (p := ⟨gb192, 2, none⟩) (Kd.R_far (p := ⟨gb192, 1, none⟩) (Kd.R_far (p := ⟨gb192, 0, none⟩) (Kd.R_types HO_102002.out BK192.out (by decide)) (fun _ hk => hk.2) (.slice Ao134 t177.length co134)) (fun _ hk => hk.2) (.slice Ao138 t180.length co138)) (fun _ hk => hk.2) (.slice Ao139 t183.length co139)) (fun _ hk => hk.2) (.slice Ao140 t186.length co140)) (fun _ hk => hk.2) (.slice Ao141 t189.length co141)) (fun _ hk => ⟨hk.1.1.1, ⟨hk.1.1.2, hk.1.2⟩⟩)))⟩; have n3_ : Aside0 (Kd.R Kd.bool 4 w142 w.heap.size (fun k_ => some k_ ≠ (.slice Ao18 t115.length co18 : Value).ownBlock ∧ some k_ ≠ (.slice Ao58 t149.length co58 : Value).ownBlock ∧ some k_ ≠ (.slice Ao59 t152.length co59 : Value).ownBlock ∧ some k_ ≠ (.slice Ao125 t168.length co125 : Value).ownBlock ∧ some k_ ≠ (.slice Ao126 t171.length co126 : Value).ownBlock ∧ some k_ ≠ (.slice Ao129 y174.length co129 : Value).ownBlock ∧ some k_ ≠ (.slice Ao140 t186.length co140 : Value).ownBlock ∧ some k_ ≠ (.slice Ao141 t189.length co141 : Value).ownBlock) (.slice Ao17 t112.length co17) t112) := ⟨(by rw [hw]; exact (by (with_reducible repeat (first | apply Kd.R_alloc | apply Kd.R_drewN | apply Kd.R_drew)); exact Kd.R_mono (Kd.R_far (p := ⟨gb192, 4, none⟩) (Kd.R_far (p := ⟨gb192, 3, none⟩) (Kd.R_far (p := ⟨gb192, 2, none⟩) (Kd.R_far (p := ⟨gb192, 1, none⟩) (Kd.R_far (p := ⟨gb192, 0, none⟩) (Kd.R_types HO_102003.out BK192.out (by decide)) (fun _ hk => hk.2) (.slice Ao134 t177.length co134)) (fun _ hk => hk.2) (.slice Ao138 t180.length co138)) (fun _ hk => hk.2) (.slice Ao139 t183.length co139)) (fun _ hk => hk.2) (.slice Ao140 t186.length co140)) (fun _ hk => hk.2) (.slice Ao141 t189.length co141)) (fun _ hk => ⟨hk.1.1.1.1.1.1.1, ⟨hk.1.1.1.1.1.1.2.1, ⟨hk.1.1.1.1.1.1.2.2, ⟨hk.1.1.1.1.1.2, ⟨hk.1.1.1.1.2, ⟨hk.1.1.1.2, ⟨hk.1.1.2, hk.1.2⟩⟩⟩⟩⟩⟩⟩)))⟩; have n4_ : Aside0 (Kd.R Kd.bool 4 w142 w.heap.size (fun k_ => some k_ ≠ (.slice Ao17 t112.length co17 : Value).ownBlock ∧ some k_ ≠ (.slice Ao58 t149.length co58 : Value).ownBlock ∧ some k_ ≠ (.slice Ao59 t152.length co59 : Value).ownBlock ∧ some k_ ≠ (.slice Ao125 t168.length co125 : Value).ownBlock ∧ some k_ ≠ (.slice Ao126 t171.length co126 : Value).ownBlock ∧ some k_ ≠ (.slice Ao129 y174.length co129 : Value).ownBlock ∧ some k_ ≠ (.slice Ao140 t186.length co140 : Value).ownBlock ∧ some k_ ≠ (.slice Ao141 t189.length co141 : Value).ownBlock) (.slice Ao18 t115.length co18) t115) := ⟨(by rw [hw]; exact (by (with_reducible repeat (first | apply Kd.R_alloc | apply Kd.R_drewN | apply Kd.R_drew)); exact Kd.R_mono (Kd.R_far (p := ⟨gb192, 4, none⟩) (Kd.R_far (p := ⟨gb192, 3, none⟩) (Kd.R_far (p := ⟨gb192, 2, none⟩) (Kd.R_far (p := ⟨gb192, 1, none⟩) (Kd.R_far (p := ⟨gb192, 0, none⟩) (Kd.R_types HO_102004.out BK192.out (by decide)) (fun _ hk => hk.2) (.slice Ao134 t177.length co134)) (fun _ hk => hk.2) (.slice Ao138 t180.length co138)) (fun _ hk => hk.2) (.slice Ao139 t183.length co139)) (fun _ hk => hk.2) (.slice Ao140 t186.length co140)) (fun _ hk => hk.2) (.slice Ao141 t189.length co141)) (fun _ hk => ⟨hk.1.1.1.1.1.1.1, ⟨hk.1.1.1.1.1.1.2.1, ⟨hk.1.1.1.1.1.1.2.2, ⟨hk.1.1.1.1.1.2, ⟨hk.1.1.1.1.2, ⟨hk.1.1.1.2, ⟨hk.1.1.2, hk.1.2⟩⟩⟩⟩⟩⟩⟩)))⟩; have n5_ : Aside0 (Kd.R k56 56 w142 w.heap.size (fun k_ => some k_ ≠ (.slice Ao13 t103.length co13 : Value).ownBlock ∧ some k_ ≠ (.slice Ao121 t159.length co121 : Value).ownBlock ∧ some k_ ≠ (.slice Ao134 t177.length co134 : Value).ownBlock) (.slice Ao54 t140.length co54) t140) := ⟨(by rw [hw]; exact (by (with_reducible repeat (first | apply Kd.R_alloc | apply Kd.R_drewN | apply Kd.R_drew)); exact Kd.R_mono (Kd.R_far (p := ⟨gb192, 4, none⟩) (Kd.R_far (p := ⟨gb192, 3, none⟩) (Kd.R_far (p := ⟨gb192, 2, none⟩) (Kd.R_far (p := ⟨gb192, 1, none⟩) (Kd.R_far (p := ⟨gb192, 0, none⟩) (Kd.R_types HO_135000.out BK192.out (by decide)) (fun _ hk => hk.2) (.slice Ao134 t177.length co134)) (fun _ hk => hk.2) (.slice Ao138 t180.length co138)) (fun _ hk => hk.2) (.slice Ao139 t183.length co139)) (fun _ hk => hk.2) (.slice Ao140 t186.length co140)) (fun _ hk => hk.2) (.slice Ao141 t189.length co141)) (fun _ hk => ⟨hk.1.1.1, ⟨hk.1.1.2, hk.1.2⟩⟩)))⟩; have n6_ : Aside0 (Kd.R k54 54 w142 w.heap.size (fun k_ => some k_ ≠ (.slice Ao15 t106.length co15 : Value).ownBlock ∧ some k_ ≠ (.slice Ao123 t162.length co123 : Value).ownBlock ∧ some k_ ≠ (.slice Ao138 t180.length co138 : Value).ownBlock) u135001 x135001_49) := ⟨(by rw [hw]; exact (by (with_reducible repeat (first | apply Kd.R_alloc | apply Kd.R_drewN | apply Kd.R_drew)); exact Kd.R_mono (Kd.R_far (p := ⟨gb192, 4, none⟩) (Kd.R_far (p := ⟨gb192, 3, none⟩) (Kd.R_far (p := ⟨gb192, 2, none⟩) (Kd.R_far (p := ⟨gb192, 1, none⟩) (Kd.R_far (p := ⟨gb192, 0, none⟩) (Kd.R_types HO_135001.out BK192.out (by decide)) (fun _ hk => hk.2) (.slice Ao134 t177.length co134)) (fun _ hk => hk.2) (.slice Ao138 t180.length co138)) (fun _ hk => hk.2) (.slice Ao139 t183.length co139)) (fun _ hk => hk.2) (.slice Ao140 t186.length co140)) (fun _ hk => hk.2) (.slice Ao141 t189.length co141)) (fun _ hk => ⟨hk.1.1.1, ⟨hk.1.1.2, hk.1.2⟩⟩)))⟩; have n7_ : Aside0 (Kd.R k67 67 w142 w.heap.size (fun k_ => some k_ ≠ (.slice Ao16 t109.length co16 : Value).ownBlock ∧ some k_ ≠ (.slice Ao124 t165.length co124 : Value).ownBlock ∧ some k_ ≠ (.slice Ao139 t183.length co139 : Value).ownBlock) (.slice Ao57 t146.length co57) t146) := ⟨(by rw [hw]; exact (by (with_reducible repeat (first | apply Kd.R_alloc | apply Kd.R_drewN | apply Kd.R_drew)); exact Kd.R_mono (Kd.R_far (p := ⟨gb192, 4, none⟩) (Kd.R_far (p := ⟨gb192, 3, none⟩) (Kd.R_far (p := ⟨gb192, 2, none⟩) (Kd.R_far (p := ⟨gb192, 1, none⟩) (Kd.R_far (p := ⟨gb192, 0, none⟩) (Kd.R_types HO_135002.out BK192.out (by decide)) (fun _ hk => hk.2) (.slice Ao134 t177.length co134)) (fun _ hk => hk.2) (.slice Ao138 t180.length co138)) (fun _ hk => hk.2) (.slice Ao139 t183.length co139)) (fun _ hk => hk.2) (.slice Ao140 t186.length co140)) (fun _ hk => hk.2) (.slice Ao141 t189.length co141)) (fun _ hk => ⟨hk.1.1.1, ⟨hk.1.1.2, hk.1.2⟩⟩)))⟩; have n8_ : Aside0 (Kd.R Kd.bool 4 w142 w.heap.size (fun k_ => some k_ ≠ (.slice Ao17 t112.length co17 : Value).ownBlock ∧ some k_ ≠ (.slice Ao18 t115.length co18 : Value).ownBlock ∧ some k_ ≠ (.slice Ao59 t152.length co59 : Value).ownBlock ∧ some k_ ≠ (.slice Ao125 t168.length co125 : Value).ownBlock ∧ some k_ ≠ (.slice Ao126 t171.length co126 : Value).ownBlock ∧ some k_ ≠ (.slice Ao129 y174.length co129 : Value).ownBlock ∧ some k_ ≠ (.slice Ao140 t186.length co140 : Value).ownBlock ∧ some k_ ≠ (.slice Ao141 t189.length co141 : Value).ownBlock) (.slice Ao58 t149.length co58) t149) := ⟨(by rw [hw]; exact (by (with_reducible repeat (first | apply Kd.R_alloc | apply Kd.R_drewN | apply Kd.R_drew)); exact Kd.R_mono (Kd.R_far (p := ⟨gb192, 4, none⟩) (Kd.R_far (p := ⟨gb192, 3, none⟩) (Kd.R_far (p := ⟨gb192, 2, none⟩) (Kd.R_far (p := ⟨gb192, 1, none⟩) (Kd.R_far (p := ⟨gb192, 0, none⟩) (Kd.R_types HO_135003.out BK192.out (by decide)) (fun _ hk => hk.2) (.slice Ao134 t177.length co134)) (fun _ hk => hk.2) (.slice Ao138 t180.length co138)) (fun _ hk => hk.2) (.slice Ao139 t183.length co139)) (fun _ hk => hk.2) (.slice Ao140 t186.length co140)) (fun _ hk => hk.2) (.slice Ao141 t189.length co141)) (fun _ hk => ⟨hk.1.1.1.1.1.1.1, ⟨hk.1.1.1.1.1.1.2.1, ⟨hk.1.1.1.1.1.1.2.2, ⟨hk.1.1.1.1.1.2, ⟨hk.1.1.1.1.2, ⟨hk.1.1.1.2, ⟨hk.1.1.2, hk.1.2⟩⟩⟩⟩⟩⟩⟩)))⟩; have n9_ : Aside0 (Kd.R Kd.bool 4 w142 w.heap.size (fun k_ => some k_ ≠ (.slice Ao17 t112.length co17 : Value).ownBlock ∧ some k_ ≠ (.slice Ao18 t115.length co18 : Value).ownBlock ∧ some k_ ≠ (.slice Ao58 t149.length co58 : Value).ownBlock ∧ some k_ ≠ (.slice Ao125 t168.length co125 : Value).ownBlock ∧ some k_ ≠ (.slice Ao126 t171.length co126 : Value).ownBlock ∧ some k_ ≠ (.slice Ao129 y174.length co129 : Value).ownBlock ∧ some k_ ≠ (.slice Ao140 t186.length co140 : Value).ownBlock ∧ some k_ ≠ (.slice Ao141 t189.length co141 : Value).ownBlock) (.slice Ao59 t152.length co59) t152) := ⟨(by rw [hw]; exact (by (with_reducible repeat (first | apply Kd.R_alloc | apply Kd.R_drewN | apply Kd.R_drew)); exact Kd.R_mono (Kd.R_far (p := ⟨gb192, 4, none⟩) (Kd.R_far (p := ⟨gb192, 3, none⟩) (Kd.R_far (p := ⟨gb192, 2, none⟩) (Kd.R_far (p := ⟨gb192, 1, none⟩) (Kd.R_far (p := ⟨gb192, 0, none⟩) (Kd.R_types HO_135004.out BK192.out (by decide)) (fun _ hk => hk.2) (.slice Ao134 t177.length co134)) (fun _ hk => hk.2) (.slice Ao138 t180.length co138)) (fun _ hk => hk.2) (.slice Ao139 t183.length co139)) (fun _ hk => hk.2) (.slice Ao140 t186.length co140)) (fun _ hk => hk.2) (.slice Ao141 t189.length co141)) (fun _ hk => ⟨hk.1.1.1.1.1.1.1, ⟨hk.1.1.1.1.1.1.2.1, ⟨hk.1.1.1.1.1.1.2.2, ⟨hk.1.1.1.1.1.2, ⟨hk.1.1.1.1.2, ⟨hk.1.1.1.2, ⟨hk.1.1.2, hk.1.2⟩⟩⟩⟩⟩⟩⟩)))⟩; have n10_ : Aside0 (Kd.R k56 56 w142 w.heap.size (fun k_ => some k_ ≠ (.slice Ao13 t103.length co13 : Value).ownBlock ∧ some k_ ≠ (.slice Ao54 t140.length co54 : Value).ownBlock ∧ some k_ ≠ (.slice Ao134 t177.length co134 : Value).ownBlock) (.slice Ao121 t159.length co121) t159) := ⟨(by rw [hw]; exact (by (with_reducible repeat (first | apply Kd.R_alloc | apply Kd.R_drewN | apply Kd.R_drew)); exact Kd.R_mono (Kd.R_far (p := ⟨gb192, 4, none⟩) (Kd.R_far (p := ⟨gb192, 3, none⟩) (Kd.R_far (p := ⟨gb192, 2, none⟩) (Kd.R_far (p := ⟨gb192, 1, none⟩) (Kd.R_far (p := ⟨gb192, 0, none⟩) (Kd.R_types HO161.out BK192.out (by decide)) (fun _ hk => hk.2) (.slice Ao134 t177.length co134)) (fun _ hk => hk.2) (.slice Ao138 t180.length co138)) (fun _ hk => hk.2) (.slice Ao139 t183.length co139)) (fun _ hk => hk.2) (.slice Ao140 t186.length co140)) (fun _ hk => hk.2) (.slice Ao141 t189.length co141)) (fun _ hk => ⟨hk.1.1.1.2, ⟨hk.1.1.2, hk.1.2⟩⟩)))⟩; have n11_ : Aside0 (Kd.R k54 54 w142 w.heap.size (fun k_ => some k_ ≠ (.slice Ao15 t106.length co15 : Value).ownBlock ∧ some k_ ≠ (u135001 : Value).ownBlock ∧ some k_ ≠ (.slice Ao138 t180.length co138 : Value).ownBlock) (.slice Ao123 t162.length co123) t162) := ⟨(by rw [hw]; exact (by (with_reducible repeat (first | apply Kd.R_alloc | apply Kd.R_drewN | apply Kd.R_drew)); exact Kd.R_mono (Kd.R_far (p := ⟨gb192, 4, none⟩) (Kd.R_far (p := ⟨gb192, 3, none⟩) (Kd.R_far (p := ⟨gb192, 2, none⟩) (Kd.R_far (p := ⟨gb192, 1, none⟩) (Kd.R_far (p := ⟨gb192, 0, none⟩) (Kd.R_types HO164.out BK192.out (by decide)) (fun _ hk => hk.2) (.slice Ao134 t177.length co134)) (fun _ hk => hk.2) (.slice Ao138 t180.length co138)) (fun _ hk => hk.2) (.slice Ao139 t183.length co139)) (fun _ hk => hk.2) (.slice Ao140 t186.length co140)) (fun _ hk => hk.2) (.slice Ao141 t189.length co141)) (fun _ hk => ⟨hk.1.1.1.2, ⟨hk.1.1.2, hk.1.2⟩⟩)))⟩; have n12_ : Aside0 (Kd.R k67 67 w142 w.heap.size (fun k_ => some k_ ≠ (.slice Ao16 t109.length co16 : Value).ownBlock ∧ some k_ ≠ (.slice Ao57 t146.length co57 : Value).ownBlock ∧ some k_ ≠ (.slice Ao139 t183.length co139 : Value).ownBlock) (.slice Ao124 t165.length co124) t165) := ⟨(by rw [hw]; exact (by (with_reducible repeat (first | apply Kd.R_alloc | apply Kd.R_drewN | apply Kd.R_drew)); exact Kd.R_mono (Kd.R_far (p := ⟨gb192, 4, none⟩) (Kd.R_far (p := ⟨gb192, 3, none⟩) (Kd.R_far (p := ⟨gb192, 2, none⟩) (Kd.R_far (p := ⟨gb192, 1, none⟩) (Kd.R_far (p := ⟨gb192, 0, none⟩) (Kd.R_types HO167.out BK192.out (by decide)) (fun _ hk => hk.2) (.slice Ao134 t177.length co134)) (fun _ hk => hk.2) (.slice Ao138 t180.length co138)) (fun _ hk => hk.2) (.slice Ao139 t183.length co139)) (fun _ hk => hk.2) (.slice Ao140 t186.length co140)) (fun _ hk => hk.2) (.slice Ao141 t189.length co141)) (fun _ hk => ⟨hk.1.1.1.2, ⟨hk.1.1.2, hk.1.2⟩⟩)))⟩; have n13_ : Aside0 (Kd.R Kd.bool 4 w142 w.heap.size (fun k_ => some k_ ≠ (.slice Ao17 t112.length co17 : Value).ownBlock ∧ some k_ ≠ (.slice Ao18 t115.length co18 : Value).ownBlock ∧ some k_ ≠ (.slice Ao58 t149.length co58 : Value).ownBlock ∧ some k_ ≠ (.slice Ao59 t152.length co59 : Value).ownBlock ∧ some k_ ≠ (.slice Ao126 t171.length co126 : Value).ownBlock ∧ some k_ ≠ (.slice Ao129 y174.length co129 : Value).ownBlock ∧ some k_ ≠ (.slice Ao140 t186.length co140 : Value).ownBlock ∧ some k_ ≠ (.slice Ao141 t189.length co141 : Value).ownBlock) (.slice Ao125 t168.length co125) t168) := ⟨(by rw [hw]; exact (by (with_reducible repeat (first | apply Kd.R_alloc | apply Kd.R_drewN | apply Kd.R_drew)); exact Kd.R_mono (Kd.R_far (p := ⟨gb192, 4, none⟩) (Kd.R_far (p := ⟨gb192, 3, none⟩) (Kd.R_far (p := ⟨gb192, 2, none⟩) (Kd.R_far (p := ⟨gb192, 1, none⟩) (Kd.R_far (p := ⟨gb192, 0, none⟩) (Kd.R_types HO170.out BK192.out (by decide)) (fun _ hk => hk.2) (.slice Ao134 t177.length co134)) (fun _ hk => hk.2) (.slice Ao138 t180.length co138)) (fun _ hk => hk.2) (.slice Ao139 t183.length co139)) (fun _ hk => hk.2) (.slice Ao140 t186.length co140)) (fun _ hk => hk.2) (.slice Ao141 t189.length co141)) (fun _ hk => ⟨hk.1.1.1.1.1.1.1.2, ⟨hk.1.1.1.1.1.1.2, ⟨hk.1.1.1.1.1.2, ⟨hk.1.1.1.1.2, ⟨hk.1.1.1.1.1.1.1.1, ⟨hk.1.1.1.2, ⟨hk.1.1.2, hk.1.2⟩⟩⟩⟩⟩⟩⟩)))⟩; have n14_ : Aside0 (Kd.R Kd.bool 4 w142 w.heap.size (fun k_ => some k_ ≠ (.slice Ao17 t112.length co17 : Value).ownBlock ∧ some k_ ≠ (.slice Ao18 t115.length co18 : Value).ownBlock ∧ some k_ ≠ (.slice Ao58 t149.length co58 : Value).ownBlock ∧ some k_ ≠ (.slice Ao59 t152.length co59 : Value).ownBlock ∧ some k_ ≠ (.slice Ao125 t168.length co125 : Value).ownBlock ∧ some k_ ≠ (.slice Ao129 y174.length co129 : Value).ownBlock ∧ some k_ ≠ (.slice Ao140 t186.length co140 : Value).ownBlock ∧ some k_ ≠ (.slice Ao141 t189.length co141 : Value).ownBlock) (.slice Ao126 t171.length co126) t171) := ⟨(by rw [hw]; exact (by (with_reducible repeat (first | apply Kd.R_alloc | apply Kd.R_drewN | apply Kd.R_drew)); exact Kd.R_mono (Kd.R_far (p := ⟨gb192, 4, none⟩) (Kd.R_far (p := ⟨gb192, 3, none⟩) (Kd.R_far (p := ⟨gb192, 2, none⟩) (Kd.R_far (p := ⟨gb192, 1, none⟩) (Kd.R_far (p := ⟨gb192, 0, none⟩) (Kd.R_types HO173.out BK192.out (by decide)) (fun _ hk => hk.2) (.slice Ao134 t177.length co134)) (fun _ hk => hk.2) (.slice Ao138 t180.length co138)) (fun _ hk => hk.2) (.slice Ao139 t183.length co139)) (fun _ hk => hk.2) (.slice Ao140 t186.length co140)) (fun _ hk => hk.2) (.slice Ao141 t189.length co141)) (fun _ hk => ⟨hk.1.1.1.1.1.1.1.2, ⟨hk.1.1.1.1.1.1.2, ⟨hk.1.1.1.1.1.2, ⟨hk.1.1.1.1.2, ⟨hk.1.1.1.1.1.1.1.1, ⟨hk.1.1.1.2, ⟨hk.1.1.2, hk.1.2⟩⟩⟩⟩⟩⟩⟩)))⟩; have n15_ : Aside0 (Kd.R Kd.bool 4 w142 w.heap.size (fun k_ => some k_ ≠ (.slice Ao17 t112.length co17 : Value).ownBlock ∧ some k_ ≠ (.slice Ao18 t115.length co18 : Value).ownBlock ∧ some k_ ≠ (.slice Ao58 t149.length co58 : Value).ownBlock ∧ some k_ ≠ (.slice Ao59 t152.length co59 : Value).ownBlock ∧ some k_ ≠ (.slice Ao125 t168.length co125 : Value).ownBlock ∧ some k_ ≠ (.slice Ao126 t171.length co126 : Value).ownBlock ∧ some k_ ≠ (.slice Ao140 t186.length co140 : Value).ownBlock ∧ some k_ ≠ (.slice Ao141 t189.length co141 : Value).ownBlock) (.slice Ao129 y174.length co129) y174) := ⟨(by rw [hw]; exact (by (with_reducible repeat (first | apply Kd.R_alloc | apply Kd.R_drewN | apply Kd.R_drew)); exact Kd.R_mono (Kd.R_far (p := ⟨gb192, 4, none⟩) (Kd.R_far (p := ⟨gb192, 3, none⟩) (Kd.R_far (p := ⟨gb192, 2, none⟩) (Kd.R_far (p := ⟨gb192, 1, none⟩) (Kd.R_far (p := ⟨gb192, 0, none⟩) (Kd.R_types HO176.out BK192.out (by decide)) (fun _ hk => hk.2) (.slice Ao134 t177.length co134)) (fun _ hk => hk.2) (.slice Ao138 t180.length co138)) (fun _ hk => hk.2) (.slice Ao139 t183.length co139)) (fun _ hk => hk.2) (.slice Ao140 t186.length co140)) (fun _ hk => hk.2) (.slice Ao141 t189.length co141)) (fun _ hk => ⟨hk.1.1.1.1.1.1.1.1.2, ⟨hk.1.1.1.1.1.1.1.2, ⟨hk.1.1.1.1.1.1.2, ⟨hk.1.1.1.1.1.2, ⟨hk.1.1.1.1.2, ⟨hk.1.1.1.2, ⟨hk.1.1.2, hk.1.2⟩⟩⟩⟩⟩⟩⟩)))⟩; have n16_ : Aside0 (Kd.R k56 56 w142 w.heap.size (fun k_ => some k_ ≠ (.slice Ao13 t103.length co13 : Value).ownBlock ∧ some k_ ≠ (.slice Ao54 t140.length co54 : Value).ownBlock ∧ some k_ ≠ (.slice Ao121 t159.length co121 : Value).ownBlock) (.slice Ao134 t177.length co134) t177) := ⟨(by rw [hw]; exact (by (with_reducible repeat (first | apply Kd.R_alloc | apply Kd.R_drewN | apply Kd.R_drew)); exact Kd.R_mono (Kd.R_far (p := ⟨gb192, 4, none⟩) (Kd.R_far (p := ⟨gb192, 3, none⟩) (Kd.R_far (p := ⟨gb192, 2, none⟩) (Kd.R_far (p := ⟨gb192, 1, none⟩) (Kd.R_far (p := ⟨gb192, 0, none⟩) (Kd.R_types HO179.out BK192.out (by decide)) (fun _ hk => hk.2) (.slice Ao134 t177.length co134)) (fun _ hk => hk.2) (.slice Ao138 t180.length co138)) (fun _ hk => hk.2) (.slice Ao139 t183.length co139)) (fun _ hk => hk.2) (.slice Ao140 t186.length co140)) (fun _ hk => hk.2) (.slice Ao141 t189.length co141)) (fun _ hk => ⟨hk.1.1.1.2, ⟨hk.1.1.2, hk.1.2⟩⟩)))⟩; have n17_ : Aside0 (Kd.R k54 54 w142 w.heap.size (fun k_ => some k_ ≠ (.slice Ao15 t106.length co15 : Value).ownBlock ∧ some k_ ≠ (u135001 : Value).ownBlock ∧ some k_ ≠ (.slice Ao123 t162.length co123 : Value).ownBlock) (.slice Ao138 t180.length co138) t180) := ⟨(by rw [hw]; exact (by (with_reducible repeat (first | apply Kd.R_alloc | apply Kd.R_drewN | apply Kd.R_drew)); exact Kd.R_mono (Kd.R_far (p := ⟨gb192, 4, none⟩) (Kd.R_far (p := ⟨gb192, 3, none⟩) (Kd.R_far (p := ⟨gb192, 2, none⟩) (Kd.R_far (p := ⟨gb192, 1, none⟩) (Kd.R_far (p := ⟨gb192, 0, none⟩) (Kd.R_types HO182.out BK192.out (by decide)) (fun _ hk => hk.2) (.slice Ao134 t177.length co134)) (fun _ hk => hk.2) (.slice Ao138 t180.length co138)) (fun _ hk => hk.2) (.slice Ao139 t183.length co139)) (fun _ hk => hk.2) (.slice Ao140 t186.length co140)) (fun _ hk => hk.2) (.slice Ao141 t189.length co141)) (fun _ hk => ⟨hk.1.1.1.2, ⟨hk.1.1.2, hk.1.2⟩⟩)))⟩; have n18_ : Aside0 (Kd.R k67 67 w142 w.heap.size (fun k_ => some k_ ≠ (.slice Ao16 t109.length co16 : Value).ownBlock ∧ some k_ ≠ (.slice Ao57 t146.length co57 : Value).ownBlock ∧ some k_ ≠ (.slice Ao124 t165.length co124 : Value).ownBlock) (.slice Ao139 t183.length co139) t183) := ⟨(by rw [hw]; exact (by (with_reducible repeat (first | apply Kd.R_alloc | apply Kd.R_drewN | apply Kd.R_drew)); exact Kd.R_mono (Kd.R_far (p := ⟨gb192, 4, none⟩) (Kd.R_far (p := ⟨gb192, 3, none⟩) (Kd.R_far (p := ⟨gb192, 2, none⟩) (Kd.R_far (p := ⟨gb192, 1, none⟩) (Kd.R_far (p := ⟨gb192, 0, none⟩) (Kd.R_types HO185.out BK192.out (by decide)) (fun _ hk => hk.2) (.slice Ao134 t177.length co134)) (fun _ hk => hk.2) (.slice Ao138 t180.length co138)) (fun _ hk => hk.2) (.slice Ao139 t183.length co139)) (fun _ hk => hk.2) (.slice Ao140 t186.length co140)) (fun _ hk => hk.2) (.slice Ao141 t189.length co141)) (fun _ hk => ⟨hk.1.1.1.2, ⟨hk.1.1.2, hk.1.2⟩⟩)))⟩; have n19_ : Aside0 (Kd.R Kd.bool 4 w142 w.heap.size (fun k_ => some k_ ≠ (.slice Ao17 t112.length co17 : Value).ownBlock ∧ some k_ ≠ (.slice Ao18 t115.length co18 : Value).ownBlock ∧ some k_ ≠ (.slice Ao58 t149.length co58 : Value).ownBlock ∧ some k_ ≠ (.slice Ao59 t152.length co59 : Value).ownBlock ∧ some k_ ≠ (.slice Ao125 t168.length co125 : Value).ownBlock ∧ some k_ ≠ (.slice Ao126 t171.length co126 : Value).ownBlock ∧ some k_ ≠ (.slice Ao129 y174.length co129 : Value).ownBlock ∧ some k_ ≠ (.slice Ao141 t189.length co141 : Value).ownBlock) (.slice Ao140 t186.length co140) t186) := ⟨(by rw [hw]; exact (by (with_reducible repeat (first | apply Kd.R_alloc | apply Kd.R_drewN | apply Kd.R_drew)); exact Kd.R_mono (Kd.R_far (p := ⟨gb192, 4, none⟩) (Kd.R_far (p := ⟨gb192, 3, none⟩) (Kd.R_far (p := ⟨gb192, 2, none⟩) (Kd.R_far (p := ⟨gb192, 1, none⟩) (Kd.R_far (p := ⟨gb192, 0, none⟩) (Kd.R_types HO188.out BK192.out (by decide)) (fun _ hk => hk.2) (.slice Ao134 t177.length co134)) (fun _ hk => hk.2) (.slice Ao138 t180.length co138)) (fun _ hk => hk.2) (.slice Ao139 t183.length co139)) (fun _ hk => hk.2) (.slice Ao140 t186.length co140)) (fun _ hk => hk.2) (.slice Ao141 t189.length co141)) (fun _ hk => ⟨hk.1.1.1.1.1.1.1.2, ⟨hk.1.1.1.1.1.1.2, ⟨hk.1.1.1.1.1.2, ⟨hk.1.1.1.1.2, ⟨hk.1.1.1.2, ⟨hk.1.1.2, ⟨hk.1.2, hk.1.1.1.1.1.1.1.1⟩⟩⟩⟩⟩⟩⟩)))⟩; have n20_ : Aside0 (Kd.R Kd.bool 4 w142 w.heap.size (fun k_ => some k_ ≠ (.slice Ao17 t112.length co17 : Value).ownBlock ∧ some k_ ≠ (.slice Ao18 t115.length co18 : Value).ownBlock ∧ some k_ ≠ (.slice Ao58 t149.length co58 : Value).ownBlock ∧ some k_ ≠ (.slice Ao59 t152.length co59 : Value).ownBlock ∧ some k_ ≠ (.slice Ao125 t168.length co125 : Value).ownBlock ∧ some k_ ≠ (.slice Ao126 t171.length co126 : Value).ownBlock ∧ some k_ ≠ (.slice Ao129 y174.length co129 : Value).ownBlock ∧ some k_ ≠ (.slice Ao140 t186.length co140 : Value).ownBlock) (.slice Ao141 t189.length co141) t189) := ⟨(by rw [hw]; exact (by (with_reducible repeat (first | apply Kd.R_alloc | apply Kd.R_drewN | apply Kd.R_drew)); exact Kd.R_mono (Kd.R_far (p := ⟨gb192, 4, none⟩) (Kd.R_far (p := ⟨gb192, 3, none⟩) (Kd.R_far (p := ⟨gb192, 2, none⟩) (Kd.R_far (p := ⟨gb192, 1, none⟩) (Kd.R_far (p := ⟨gb192, 0, none⟩) (Kd.R_types HO191.out BK192.out (by decide)) (fun _ hk => hk.2) (.slice Ao134 t177.length co134)) (fun _ hk => hk.2) (.slice Ao138 t180.length co138)) (fun _ hk => hk.2) (.slice Ao139 t183.length co139)) (fun _ hk => hk.2) (.slice Ao140 t186.length co140)) (fun _ hk => hk.2) (.slice Ao141 t189.length co141)) (fun _ hk => ⟨hk.1.1.1.1.1.1.1.2, ⟨hk.1.1.1.1.1.1.2, ⟨hk.1.1.1.1.1.2, ⟨hk.1.1.1.1.2, ⟨hk.1.1.1.2, ⟨hk.1.1.2, ⟨hk.1.2, hk.1.1.1.1.1.1.1.1⟩⟩⟩⟩⟩⟩⟩)))⟩; have n21_ : Aside0 (w142.heap[gb101]? = some (.cells #[.slice Ao13 t103.length co13, .slice Ao15 t106.length co15, .slice Ao16 t109.length co16, .slice Ao17 t112.length co17, .slice Ao18 t115.length co18] 27 (0, 0))) := ⟨(by rw [hw]; exact (by (with_reducible repeat (first | refine blk_drewN ?_ _ | refine blk_drew ?_ | refine blk_alloc ?_ _)); refine blk_far ?_ NB101_192.out _; (with_reducible repeat (first | refine blk_drewN ?_ _ | refine blk_drew ?_ | refine blk_alloc ?_ _)); refine blk_far ?_ NB101_192.out _; (with_reducible repeat (first | refine blk_drewN ?_ _ | refine blk_drew ?_ | refine blk_alloc ?_ _)); refine blk_far ?_ NB101_192.out _; (with_reducible repeat (first | refine blk_drewN ?_ _ | refine blk_drew ?_ | refine blk_alloc ?_ _)); refine blk_far ?_ NB101_192.out _; (with_reducible repeat (first | refine blk_drewN ?_ _ | refine blk_drew ?_ | refine blk_alloc ?_ _)); refine blk_far ?_ NB101_192.out _; (with_reducible repeat (first | refine blk_drewN ?_ _ | refine blk_drew ?_ | refine blk_alloc ?_ _)); exact BK101.out))⟩; have n22_ : Aside0 (w142.heap[gb134]? = some (.cells #[.slice Ao121 t159.length co121, .slice Ao123 t162.length co123, .slice Ao124 t165.length co124, .slice Ao129 y174.length co129, .slice Ao126 t171.length co126] 27 (0, 0))) := ⟨(by rw [hw]; exact (by (with_reducible repeat (first | refine blk_drewN ?_ _ | refine blk_drew ?_ | refine blk_alloc ?_ _)); refine blk_far ?_ NB134_192.out _; (with_reducible repeat (first | refine blk_drewN ?_ _ | refine blk_drew ?_ | refine blk_alloc ?_ _)); refine blk_far ?_ NB134_192.out _; (with_reducible repeat (first | refine blk_drewN ?_ _ | refine blk_drew ?_ | refine blk_alloc ?_ _)); refine blk_far ?_ NB134_192.out _; (with_reducible repeat (first | refine blk_drewN ?_ _ | refine blk_drew ?_ | refine blk_alloc ?_ _)); refine blk_far ?_ NB134_192.out _; (with_reducible repeat (first | refine blk_drewN ?_ _ | refine blk_drew ?_ | refine blk_alloc ?_ _)); refine blk_far ?_ NB134_192.out _; (with_reducible repeat (first | refine blk_drewN ?_ _ | refine blk_drew ?_ | refine blk_alloc ?_ _)); exact BK134.out))⟩; have n23_ : Aside0 (w142.heap[gb192]? = some (.cells #[.slice Ao134 t177.length co134, .slice Ao138 t180.length co138, .slice Ao139 t183.length co139, .slice Ao140 t186.length co140, .slice Ao141 t189.length co141] 27 (0, 0))) := ⟨(by rw [hw]; exact (by (with_reducible repeat (first | refine blk_drewN ?_ _ | refine blk_drew ?_ | refine blk_alloc ?_ _)); refine blk_put (cs := #[.slice Ao134 t177.length co134, .slice Ao138 t180.length co138, .slice Ao139 t183.length co139, .slice Ao140 t186.length co140, .slice none 0 0]) ?_ 4 _ rfl; (with_reducible repeat (first | refine blk_drewN ?_ _ | refine blk_drew ?_ | refine blk_alloc ?_ _)); refine blk_put (cs := #[.slice Ao134 t177.length co134, .slice Ao138 t180.length co138, .slice Ao139 t183.length co139, .slice none 0 0, .slice none 0 0]) ?_ 3 _ rfl; (with_reducible repeat (first | refine blk_drewN ?_ _ | refine blk_drew ?_ | refine blk_alloc ?_ _)); refine blk_put (cs := #[.slice Ao134 t177.length co134, .slice Ao138 t180.length co138, .slice none 0 0, .slice none 0 0, .slice none 0 0]) ?_ 2 _ rfl; (with_reducible repeat (first | refine blk_drewN ?_ _ | refine blk_drew ?_ | refine blk_alloc ?_ _)); refine blk_put (cs := #[.slice Ao134 t177.length co134, .slice none 0 0, .slice none 0 0, .slice none 0 0, .slice none 0 0]) ?_ 1 _ rfl; (with_reducible repeat (first | refine blk_drewN ?_ _ | refine blk_drew ?_ | refine blk_alloc ?_ _)); refine blk_put (cs := #[.slice none 0 0, .slice none 0 0, .slice none 0 0, .slice none 0 0, .slice none 0 0]) ?_ 0 _ rfl; (with_reducible repeat (first | refine blk_drewN ?_ _ | refine blk_drew ?_ | refine blk_alloc ?_ _)); exact BK192.out))⟩; have n24_ : Aside0 (Below w.heap.size w w142) := ⟨(by rw [hw]; exact (by repeat (first | (with_reducible first | exact HB.out | apply below_alloc | apply pw_below_drewN | apply below_drew1 | refine below_set ?_ GE101.out | refine below_set ?_ GE134.out | refine below_set ?_ GE192.out) | exact HB.out)))⟩; clear hw; clear HO_102000; clear HO_102001; clear HO_102002; clear HO_102003; clear HO_102004; clear HO_135000; clear HO_135001; clear HO_135002; clear HO_135003; clear HO_135004; clear HO161; clear HO164; clear HO167; clear HO170; clear HO173; clear HO176; clear HO179; clear HO182; clear HO185; clear HO188; clear HO191; clear BK101; clear BK134; clear BK192; clear HB; have HO_102000 := n0_; have HO_102001 := n1_; have HO_102002 := n2_; have HO_102003 := n3_; have HO_102004 := n4_; have HO_135000 := n5_; have HO_135001 := n6_; have HO_135002 := n7_; have HO_135003 := n8_; have HO_135004 := n9_; have HO161 := n10_; have HO164 := n11_; have HO167 := n12_; have HO170 := n13_; have HO173 := n14_; have HO176 := n15_; have HO179 := n16_; have HO182 := n17_; have HO185 := n18_; have HO188 := n19_; have HO191 := n20_; have BK101 := n21_; have BK134 := n22_; have BK192 := n23_; have HB := n24_; clear n0_ n1_ n2_ n3_ n4_ n5_ n6_ n7_ n8_ n9_ n10_ n11_ n12_ n13_ n14_ n15_ n16_ n17_ n18_ n19_ n20_ n21_ n22_ n23_ n24_; have hcz143_0 := kc BK192 0 rfl; have hcz143_1 := kc BK192 1 rfl; have hcz143_2 := kc BK192 2 rfl; have hcz143_3 := kc BK192 3 rfl; have hcz143_4 := kc BK192 4 rfl; have hfz143_0 := blk_frozen BK192.out 0; have hfz143_1 := blk_frozen BK192.out 1; have hfz143_2 := blk_frozen BK192.out 2; have hfz143_3 := blk_frozen BK192.out 3; have hfz143_4 := blk_frozen BK192.out 4; have p83 : 0 ≤ (0 : Int) := (by omega); have q83 : (0 : Int) < ((t177.length : Int) : Int) := of_decide_eq_true (by first | (with_reducible assumption) | assumption); have qi83 : (0 < t177.length) = True := eq_true (by omega); obtain ⟨go83, co83, eo83, gb83, gl83, cl83, HG83⟩ := Kd.R_form HO179.out (by omega); (first | cases eo83 | (injection eo83 with ea_ en_ ec_; (first | subst ea_ | (injection ea_ with ea_; subst ea_)); subst ec_; clear en_)); have GB83 := Aside0.mk gb83; have GG83 := Aside0.mk HG83; clear gb83 gl83 HG83; obtain ⟨ce83, hcl83, hM83, hcc83, hfr83⟩ := Kd.R_elem HO179.out z56 (0 : Int) p83 q83; obtain rfl := k56_openM hM83; have hx83_0 : w142.cell? ⟨go83, (0 : Int).toNat * 3, none⟩ = some (.int .i64 ((rd_T56 t177 0).f0)) := hcc83 0 _ rfl; have hx83_1 : w142.cell? ⟨go83, (0 : Int).toNat * 3 + 1, none⟩ = some (.bool ((rd_T56 t177 0).f1)) := hcc83 1 _ rfl; have hx83_2 : w142.cell? ⟨go83, (0 : Int).toNat * 3 + 2, none⟩ = some (.string ((rd_T56 t177 0).f2)) := hcc83 2 _ rfl; have hf83_0 : w142.frozen? ⟨go83, (0 : Int).toNat * 3, none⟩ = false := hfr83 0; have hf83_1 : w142.frozen? ⟨go83, (0 : Int).toNat * 3 + 1, none⟩ = false := hfr83 1; have hf83_2 : w142.frozen? ⟨go83, (0 : Int).toNat * 3 + 2, none⟩ = false := hfr83 2; clear hcl83 hcc83 hfr83 hM83; (try rw [show ((0 : Int)).toNat = 0 from rfl] at hx83_0); (try simp only [Nat.reduceMul, Nat.zero_mul, Nat.zero_add, Nat.reduceAdd] at hx83_0); (try rw [show ((0 : Int)).toNat = 0 from rfl] at hf83_0); (try simp only [Nat.reduceMul, Nat.zero_mul, Nat.zero_add, Nat.reduceAdd] at hf83_0); (try rw [show ((0 : Int)).toNat = 0 from rfl] at hx83_1); (try simp only [Nat.reduceMul, Nat.zero_mul, Nat.zero_add, Nat.reduceAdd] at hx83_1); (try rw [show ((0 : Int)).toNat = 0 from rfl] at hf83_1); (try simp only [Nat.reduceMul, Nat.zero_mul, Nat.zero_add, Nat.reduceAdd] at hf83_1); (try rw [show ((0 : Int)).toNat = 0 from rfl] at hx83_2); (try simp only [Nat.reduceMul, Nat.zero_mul, Nat.zero_add, Nat.reduceAdd] at hx83_2); (try rw [show ((0 : Int)).toNat = 0 from rfl] at hf83_2); (try simp only [Nat.reduceMul, Nat.zero_mul, Nat.zero_add, Nat.reduceAdd] at hf83_2); replace p83 := eq_true p83; replace q83 := eq_true q83; have HX144 := Aside0.mk (show Kd.R k56 56 w142 w.heap.size (fun k_ => some k_ ≠ (.slice Ao13 t103.length co13 : Value).ownBlock ∧ some k_ ≠ (.slice Ao54 t140.length co54 : Value).ownBlock ∧ some k_ ≠ (.slice Ao121 t159.length co121 : Value).ownBlock) (.slice (some ⟨go83, 0, none⟩) t177.length co134) t177 from (kr HO179)); obtain ⟨ce144, hcl144, hM144, hcc144, hfr144⟩ := Kd.R_elem HX144.out z56 (0 : Int) (by omega) (by have h_ : (0 : Int) < ((t177.length : Int) : Int) := of_decide_eq_true (by first | (with_reducible assumption) | assumption); first | exact h_ | (have e_ := (Kd.R_reads' HO179.out).1; omega) | simpa using h_); obtain rfl := k56_openM hM144; have HP144 := Kd.R_seg HX144.out (0 : Int) (by omega) (by have h_ : (0 : Int) < ((t177.length : Int) : Int) := of_decide_eq_true (by first | (with_reducible assumption) | assumption); first | exact h_ | (have e_ := (Kd.R_reads' HO179.out).1; omega) | simpa using h_) (seg := [.string (⟨#[0]⟩ : ByteArray)]) (j := 2) hcl144 hcc144 (show 3 ≤ 3 from by decide) (x' := (⟨(rd_T56 t177 0).f0, (rd_T56 t177 0).f1, (⟨#[0]⟩ : ByteArray)⟩ : S56)) (k56_mkM _ _ _ (⟨(rd_T56 t177 0).f0, (rd_T56 t177 0).f1, (⟨#[0]⟩ : ByteArray)⟩ : S56) ) (fun _ hk => hk); have hx144_2 := hcc144 2 _ rfl; (try simp only [show (k56).sz = 3 from rfl, Nat.mul_one, Nat.add_zero] at hx144_2); (try rw [show ((0 : Int)).toNat = 0 from rfl] at hx144_2); (try simp only [Nat.reduceMul, Nat.zero_mul, Nat.zero_add, Nat.reduceAdd] at hx144_2); have hf144_2 := hfr144 2; (try simp only [show (k56).sz = 3 from rfl, Nat.mul_one, Nat.add_zero] at hf144_2); (try rw [show ((0 : Int)).toNat = 0 from rfl] at hf144_2); (try simp only [Nat.reduceMul, Nat.zero_mul, Nat.zero_add, Nat.reduceAdd] at hf144_2); clear hcl144 hcc144 hfr144 hM144) | ((with_reducible refine gate_store (t := 9) (p := 78) rfl ?_); refine store_event (t := 9) (p := 78) (v := ?vo_w145) (w1 := (w142.setCell ⟨go83, 2, none⟩ (.string (⟨#[0]⟩ : ByteArray)))) ?hg ?ho ?hn ?hr ?_; (case ho => rfl); (case hg => rfl); (case hn => rfl); (case hr => first | (go_simp; done) | (go_simp; rfl)); intro w145 hw; have hg : w142.grownBy w145 (some go83) := (by rw [hw]; exact HP144.2); have hp_ : Kd.R k56 56 w145 w.heap.size (fun k_ => some k_ ≠ (.slice Ao13 t103.length co13 : Value).ownBlock ∧ some k_ ≠ (.slice Ao54 t140.length co54 : Value).ownBlock ∧ some k_ ≠ (.slice Ao121 t159.length co121 : Value).ownBlock) (.slice (some ⟨go83, 0, none⟩) t177.length co134) y193 := (by rw [hw, Ny193.out]; exact HP144.1); clear HP144; have n0_ := Aside0.mk (Kd.R_after (v := (.slice (some ⟨go83, 0, none⟩) t177.length co134)) (v1 := (.slice (some ⟨go83, 0, none⟩) t177.length co134)) (ok := (fun k_ => some k_ ≠ (.slice Ao54 t140.length co54 : Value).ownBlock ∧ some k_ ≠ (.slice Ao121 t159.length co121 : Value).ownBlock)) (by (with_reducible repeat (first | apply Kd.R_alloc | apply Kd.R_drewN | apply Kd.R_drew)); exact Kd.R_mono HO_102000.out (fun _ hk => ⟨⟨hk.1, hk.2.1⟩, hk.2.2⟩)) hg (.inl rfl)); have n1_ := Aside0.mk (Kd.R_over' (v := (.slice (some ⟨go83, 0, none⟩) t177.length co134)) (kr HO_102001) (Kd.R_typed HO179.out) (by decide) hg); have n2_ := Aside0.mk (Kd.R_over' (v := (.slice (some ⟨go83, 0, none⟩) t177.length co134)) (kr HO_102002) (Kd.R_typed HO179.out) (by decide) hg); have n3_ := Aside0.mk (Kd.R_over' (v := (.slice (some ⟨go83, 0, none⟩) t177.length co134)) (kr HO_102003) (Kd.R_typed HO179.out) (by decide) hg); have n4_ := Aside0.mk (Kd.R_over' (v := (.slice (some ⟨go83, 0, none⟩) t177.length co134)) (kr HO_102004) (Kd.R_typed HO179.out) (by decide) hg); have n5_ := Aside0.mk (Kd.R_after (v := (.slice (some ⟨go83, 0, none⟩) t177.length co134)) (v1 := (.slice (some ⟨go83, 0, none⟩) t177.length co134)) (ok := (fun k_ => some k_ ≠ (.slice Ao13 t103.length co13 : Value).ownBlock ∧ some k_ ≠ (.slice Ao121 t159.length co121 : Value).ownBlock)) (by (with_reducible repeat (first | apply Kd.R_alloc | apply Kd.R_drewN | apply Kd.R_drew)); exact Kd.R_mono HO_135000.out (fun _ hk => ⟨⟨hk.1, hk.2.1⟩, hk.2.2⟩)) hg (.inl rfl)); have n6_ := Aside0.mk (Kd.R_over' (v := (.slice (some ⟨go83, 0, none⟩) t177.length co134)) (kr HO_135001) (Kd.R_typed HO179.out) (by decide) hg); have n7_ := Aside0.mk (Kd.R_over' (v := (.slice (some ⟨go83, 0, none⟩) t177.length co134)) (kr HO_135002) (Kd.R_typed HO179.out) (by decide) hg); have n8_ := Aside0.mk (Kd.R_over' (v := (.slice (some ⟨go83, 0, none⟩) t177.length co134)) (kr HO_135003) (Kd.R_typed HO179.out) (by decide) hg); have n9_ := Aside0.mk (Kd.R_over' (v := (.slice (some ⟨go83, 0, none⟩) t177.length co134)) (kr HO_135004) (Kd.R_typed HO179.out) (by decide) hg); have n10_ := Aside0.mk (blk_grown (g := gb101) (o := .cells #[.slice Ao13 t103.length co13, .slice Ao15 t106.length co15, .slice Ao16 t109.length co16, .slice Ao17 t112.length co17, .slice Ao18 t115.length co18] 27 (0, 0)) (kb BK101) hg (Kd.R_ne HO179.out BK101.out (by decide))); have n11_ := Aside0.mk (blk_grown (g := gb134) (o := .cells #[.slice Ao121 t159.length co121, .slice Ao123 t162.length co123, .slice Ao124 t165.length co124, .slice Ao129 y174.length co129, .slice Ao126 t171.length co126] 27 (0, 0)) (kb BK134) hg (Kd.R_ne HO179.out BK134.out (by decide))); have n12_ := Aside0.mk (Kd.R_after (v := (.slice (some ⟨go83, 0, none⟩) t177.length co134)) (v1 := (.slice (some ⟨go83, 0, none⟩) t177.length co134)) (ok := (fun k_ => some k_ ≠ (.slice Ao13 t103.length co13 : Value).ownBlock ∧ some k_ ≠ (.slice Ao54 t140.length co54 : Value).ownBlock)) (by (with_reducible repeat (first | apply Kd.R_alloc | apply Kd.R_drewN | apply Kd.R_drew)); exact Kd.R_mono HO161.out (fun _ hk => ⟨⟨hk.1, hk.2.1⟩, hk.2.2⟩)) hg (.inl rfl)); have n13_ := Aside0.mk (Kd.R_over' (v := (.slice (some ⟨go83, 0, none⟩) t177.length co134)) (kr HO164) (Kd.R_typed HO179.out) (by decide) hg); have n14_ := Aside0.mk (Kd.R_over' (v := (.slice (some ⟨go83, 0, none⟩) t177.length co134)) (kr HO167) (Kd.R_typed HO179.out) (by decide) hg); have n15_ := Aside0.mk (Kd.R_over' (v := (.slice (some ⟨go83, 0, none⟩) t177.length co134)) (kr HO170) (Kd.R_typed HO179.out) (by decide) hg); have n16_ := Aside0.mk (Kd.R_over' (v := (.slice (some ⟨go83, 0, none⟩) t177.length co134)) (kr HO173) (Kd.R_typed HO179.out) (by decide) hg); have n17_ := Aside0.mk (Kd.R_over' (v := (.slice (some ⟨go83, 0, none⟩) t177.length co134)) (kr HO176) (Kd.R_typed HO179.out) (by decide) hg); have n18_ := Aside0.mk (hp_); have n19_ := Aside0.mk (Kd.R_over' (v := (.slice (some ⟨go83, 0, none⟩) t177.length co134)) (kr HO182) (Kd.R_typed HO179.out) (by decide) hg); have n20_ := Aside0.mk (Kd.R_over' (v := (.slice (some ⟨go83, 0, none⟩) t177.length co134)) (kr HO185) (Kd.R_typed HO179.out) (by decide) hg); have n21_ := Aside0.mk (Kd.R_over' (v := (.slice (some ⟨go83, 0, none⟩) t177.length co134)) (kr HO188) (Kd.R_typed HO179.out) (by decide) hg); have n22_ := Aside0.mk (Kd.R_over' (v := (.slice (some ⟨go83, 0, none⟩) t177.length co134)) (kr HO191) (Kd.R_typed HO179.out) (by decide) hg); have n23_ := Aside0.mk (blk_grown (g := gb192) (o := .cells #[.slice (some ⟨go83, 0, none⟩) t177.length co134, .slice Ao138 t180.length co138, .slice Ao139 t183.length co139, .slice Ao140 t186.length co140, .slice Ao141 t189.length co141] 27 (0, 0)) (kb BK192) hg (Kd.R_ne HO179.out BK192.out (by decide))); have n24_ := Aside0.mk ((by rw [hw]; exact below_set (HB.out) GB83.out : Below w.heap.size w w145)); clear HO_102000; clear HO_102001; clear HO_102002; clear HO_102003; clear HO_102004; clear HO_135000; clear HO_135001; clear HO_135002; clear HO_135003; clear HO_135004; clear BK101; clear BK134; clear HO161; clear HO164; clear HO167; clear HO170; clear HO173; clear HO176; clear HO179; clear HO182; clear HO185; clear HO188; clear HO191; clear BK192; clear HB; have HO_102000 := n0_; have HO_102001 := n1_; have HO_102002 := n2_; have HO_102003 := n3_; have HO_102004 := n4_; have HO_135000 := n5_; have HO_135001 := n6_; have HO_135002 := n7_; have HO_135003 := n8_; have HO_135004 := n9_; have BK101 := n10_; have BK134 := n11_; have HO161 := n12_; have HO164 := n13_; have HO167 := n14_; have HO170 := n15_; have HO173 := n16_; have HO176 := n17_; have HO179 := n18_; have HO182 := n19_; have HO185 := n20_; have HO188 := n21_; have HO191 := n22_; have BK192 := n23_; have HB := n24_; clear n0_ n1_ n2_ n3_ n4_ n5_ n6_ n7_ n8_ n9_ n10_ n11_ n12_ n13_ n14_ n15_ n16_ n17_ n18_ n19_ n20_ n21_ n22_ n23_ n24_; clear hg hw hp_; have hcz146_0 := kc BK134 0 rfl; have hcz146_1 := kc BK134 1 rfl; have hcz146_2 := kc BK134 2 rfl; have hcz146_3 := kc BK134 3 rfl; have hcz146_4 := kc BK134 4 rfl; have hfz146_0 := blk_frozen BK134.out 0; have hfz146_1 := blk_frozen BK134.out 1; have hfz146_2 := blk_frozen BK134.out 2; have hfz146_3 := blk_frozen BK134.out 3; have hfz146_4 := blk_frozen BK134.out 4) | (go_at_call 16; (with_reducible refine (block_Right.calls _ _ t159 _ _ t162 _ _ t165 _ _ y174 _ _ t171 8 4 false _ ?side1 ?side2 ?side3 ?side4 ?side5 ?side6 ?side7 ?side8 ?side9 ?side10 A85.out).mono ?_); (case side1 => repeat (first | exact (Kd.R_reads' HO161.out).2.2 | (with_reducible refine Kd.C_alloc ?_ _) | (with_reducible refine Kd.C_drewN ?_ _) | (with_reducible refine Kd.C_drew ?_))); (case side2 => exact (Kd.R_reads' HO161.out).2.1); (case side3 => repeat (first | exact (Kd.R_reads' HO164.out).2.2 | (with_reducible refine Kd.C_alloc ?_ _) | (with_reducible refine Kd.C_drewN ?_ _) | (with_reducible refine Kd.C_drew ?_))); (case side4 => exact (Kd.R_reads' HO164.out).2.1); (case side5 => repeat (first | exact (Kd.R_reads' HO167.out).2.2 | (with_reducible refine Kd.C_alloc ?_ _) | (with_reducible refine Kd.C_drewN ?_ _) | (with_reducible refine Kd.C_drew ?_))); (case side6 => exact (Kd.R_reads' HO167.out).2.1); (case side7 => repeat (first | exact (Kd.R_reads' HO176.out).2.2 | (with_reducible refine Kd.C_alloc ?_ _) | (with_reducible refine Kd.C_drewN ?_ _) | (with_reducible refine Kd.C_drew ?_))); (case side8 => exact (Kd.R_reads' HO176.out).2.1); (case side9 => repeat (first | exact (Kd.R_reads' HO173.out).2.2 | (with_reducible refine Kd.C_alloc ?_ _) | (with_reducible refine Kd.C_drewN ?_ _) | (with_reducible refine Kd.C_drew ?_))); (case side10 => exact (Kd.R_reads' HO173.out).2.1); rintro e w147 ⟨rfl, hb⟩; have n0_ := krb HO_102000 hb; have n1_ := krb HO_102001 hb; have n2_ := krb HO_102002 hb; have n3_ := krb HO_102003 hb; have n4_ := krb HO_102004 hb; have n5_ := krb HO_135000 hb; have n6_ := krb HO_135001 hb; have n7_ := krb HO_135002 hb; have n8_ := krb HO_135003 hb; have n9_ := krb HO_135004 hb; have n10_ := krb HO161 hb; have n11_ := krb HO164 hb; have n12_ := krb HO167 hb; have n13_ := krb HO170 hb; have n14_ := krb HO173 hb; have n15_ := krb HO176 hb; have n16_ := krb HO179 hb; have n17_ := krb HO182 hb; have n18_ := krb HO185 hb; have n19_ := krb HO188 hb; have n20_ := krb HO191 hb; have n21_ := kbb BK101 hb; have n22_ := kbb BK134 hb; have n23_ := kbb BK192 hb; have n24_ := Aside0.mk (below_step (by repeat (first | (with_reducible first | exact HB.out | apply below_alloc | apply pw_below_drewN | apply below_drew1 | refine below_set ?_ GE101.out | refine below_set ?_ GE134.out | refine below_set ?_ GE192.out) | exact HB.out)) hb); clear HO_102000; clear HO_102001; clear HO_102002; clear HO_102003; clear HO_102004; clear HO_135000; clear HO_135001; clear HO_135002; clear HO_135003; clear HO_135004; clear HO161; clear HO164; clear HO167; clear HO170; clear HO173; clear HO176; clear HO179; clear HO182; clear HO185; clear HO188; clear HO191; clear BK101; clear BK134; clear BK192; clear HB; have HO_102000 := n0_; have HO_102001 := n1_; have HO_102002 := n2_; have HO_102003 := n3_; have HO_102004 := n4_; have HO_135000 := n5_; have HO_135001 := n6_; have HO_135002 := n7_; have HO_135003 := n8_; have HO_135004 := n9_; have HO161 := n10_; have HO164 := n11_; have HO167 := n12_; have HO170 := n13_; have HO173 := n14_; have HO176 := n15_; have HO179 := n16_; have HO182 := n17_; have HO185 := n18_; have HO188 := n19_; have HO191 := n20_; have BK101 := n21_; have BK134 := n22_; have BK192 := n23_; have HB := n24_; clear n0_ n1_ n2_ n3_ n4_ n5_ n6_ n7_ n8_ n9_ n10_ n11_ n12_ n13_ n14_ n15_ n16_ n17_ n18_ n19_ n20_ n21_ n22_ n23_ n24_; (try clear hb); (try clear hb2); (try clear hk); (try clear hi); have hcz148_0 := kc BK192 0 rfl; have hcz148_1 := kc BK192 1 rfl; have hcz148_2 := kc BK192 2 rfl; have hcz148_3 := kc BK192 3 rfl; have hcz148_4 := kc BK192 4 rfl; have hfz148_0 := blk_frozen BK192.out 0; have hfz148_1 := blk_frozen BK192.out 1; have hfz148_2 := blk_frozen BK192.out 2; have hfz148_3 := blk_frozen BK192.out 3; have hfz148_4 := blk_frozen BK192.out 4) | (go_at_call 16; refine calls_of_args (args' := #[.agg #[.slice (some ⟨go83, 0, none⟩) y193.length co134, .slice Ao138 t180.length co138, .slice Ao139 t183.length co139, .slice Ao140 t186.length co140, .slice Ao141 t189.length co141], .int .i64 8, .int .i64 4]) (by first | (rw [show y193.length = t177.length from (Kd.R_reads' HO179.out).1.symm] <;> rfl) | rfl) ?_; (with_reducible refine (block_Right.calls _ _ y193 _ _ t180 _ _ t183 _ _ t186 _ _ t189 8 4 t195 _ ?side1 ?side2 ?side3 ?side4 ?side5 ?side6 ?side7 ?side8 ?side9 ?side10 A117.out).mono ?_); (case side1 => repeat (first | exact (Kd.R_reads' HO179.out).2.2 | (with_reducible refine Kd.C_alloc ?_ _) | (with_reducible refine Kd.C_drewN ?_ _) | (with_reducible refine Kd.C_drew ?_))); (case side2 => rw [show y193.length = t177.length from (Kd.R_reads' HO179.out).1.symm]; exact (Kd.R_reads' HO179.out).2.1); (case side3 => repeat (first | exact (Kd.R_reads' HO182.out).2.2 | (with_reducible refine Kd.C_alloc ?_ _) | (with_reducible refine Kd.C_drewN ?_ _) | (with_reducible refine Kd.C_drew ?_))); (case side4 => exact (Kd.R_reads' HO182.out).2.1); (case side5 => repeat (first | exact (Kd.R_reads' HO185.out).2.2 | (with_reducible refine Kd.C_alloc ?_ _) | (with_reducible refine Kd.C_drewN ?_ _) | (with_reducible refine Kd.C_drew ?_))); (case side6 => exact (Kd.R_reads' HO185.out).2.1); (case side7 => repeat (first | exact (Kd.R_reads' HO188.out).2.2 | (with_reducible refine Kd.C_alloc ?_ _) | (with_reducible refine Kd.C_drewN ?_ _) | (with_reducible refine Kd.C_drew ?_))); (case side8 => exact (Kd.R_reads' HO188.out).2.1); (case side9 => repeat (first | exact (Kd.R_reads' HO191.out).2.2 | (with_reducible refine Kd.C_alloc ?_ _) | (with_reducible refine Kd.C_drewN ?_ _) | (with_reducible refine Kd.C_drew ?_))); (case side10 => exact (Kd.R_reads' HO191.out).2.1); rintro e w149 ⟨rfl, hb⟩; have n0_ := krb HO_102000 hb; have n1_ := krb HO_102001 hb; have n2_ := krb HO_102002 hb; have n3_ := krb HO_102003 hb; have n4_ := krb HO_102004 hb; have n5_ := krb HO_135000 hb; have n6_ := krb HO_135001 hb; have n7_ := krb HO_135002 hb; have n8_ := krb HO_135003 hb; have n9_ := krb HO_135004 hb; have n10_ := krb HO161 hb; have n11_ := krb HO164 hb; have n12_ := krb HO167 hb; have n13_ := krb HO170 hb; have n14_ := krb HO173 hb; have n15_ := krb HO176 hb; have n16_ := krb HO179 hb; have n17_ := krb HO182 hb; have n18_ := krb HO185 hb; have n19_ := krb HO188 hb; have n20_ := krb HO191 hb; have n21_ := kbb BK101 hb; have n22_ := kbb BK134 hb; have n23_ := kbb BK192 hb; have n24_ := Aside0.mk (below_step (by repeat (first | (with_reducible first | exact HB.out | apply below_alloc | apply pw_below_drewN | apply below_drew1 | refine below_set ?_ GE101.out | refine below_set ?_ GE134.out | refine below_set ?_ GE192.out) | exact HB.out)) hb); clear HO_102000; clear HO_102001; clear HO_102002; clear HO_102003; clear HO_102004; clear HO_135000; clear HO_135001; clear HO_135002; clear HO_135003; clear HO_135004; clear HO161; clear HO164; clear HO167; clear HO170; clear HO173; clear HO176; clear HO179; clear HO182; clear HO185; clear HO188; clear HO191; clear BK101; clear BK134; clear BK192; clear HB; have HO_102000 := n0_; have HO_102001 := n1_; have HO_102002 := n2_; have HO_102003 := n3_; have HO_102004 := n4_; have HO_135000 := n5_; have HO_135001 := n6_; have HO_135002 := n7_; have HO_135003 := n8_; have HO_135004 := n9_; have HO161 := n10_; have HO164 := n11_; have HO167 := n12_; have HO170 := n13_; have HO173 := n14_; have HO176 := n15_; have HO179 := n16_; have HO182 := n17_; have HO185 := n18_; have HO188 := n19_; have HO191 := n20_; have BK101 := n21_; have BK134 := n22_; have BK192 := n23_; have HB := n24_; clear n0_ n1_ n2_ n3_ n4_ n5_ n6_ n7_ n8_ n9_ n10_ n11_ n12_ n13_ n14_ n15_ n16_ n17_ n18_ n19_ n20_ n21_ n22_ n23_ n24_; (try clear hb); (try clear hb2); (try clear hk); (try clear hi)))
            go_ret
            exact ⟨by first | rfl | (simp [errW_none, errW_some] <;> rfl) | (simp only [← hji77]; first | rfl | (simp [errW_none, errW_some] <;> rfl)) | (simp [*, errW_none, errW_some] <;> rfl), by repeat (first | (with_reducible first | exact HB.out | apply below_alloc | apply pw_below_drewN | apply below_drew1 | refine below_set ?_ GE101.out | refine below_set ?_ GE134.out | refine below_set ?_ GE192.out) | exact HB.out)⟩
          ·
           replace c84 := Bool.eq_false_iff.mpr c84
           subst c84
           have H1 : (some false) = some r := by rw [if_neg (show ¬ (false = true) by decide)] at H; exact H
           clear H
           have H := H1
           clear H1
           exact Bool.noConfusion ((Option.some.inj H).trans HRT.out)
         ·
          rw [if_neg c82] at H
          exact absurd H (by simp)
        ·
         rw [if_neg c81] at H
         have c81b0 : decide (0 < (t103.length : Int)) = false := decide_eq_false c81
         have c81b1 : decide (0 < t103.length) = false := decide_eq_false (by omega)
         clear c81
         by_cases c178 : t102 = true
         ·
          subst c178
          have H1 : (some false) = some r := by rw [if_pos rfl] at H; exact H
          clear H
          have H := H1
          clear H1
          exact Bool.noConfusion ((Option.some.inj H).trans HRT.out)
         ·
          replace c178 := Bool.eq_false_iff.mpr c178
          subst c178
          have H1 : (some false) = some r := by rw [if_neg (show ¬ (false = true) by decide)] at H; exact H
          clear H
          have H := H1
          clear H1
          exact Bool.noConfusion ((Option.some.inj H).trans HRT.out)
       ·
        rw [if_neg c79] at H
        exact absurd H (by simp)
      ·
       rw [if_neg c78] at H
       exact absurd H (by simp)
 ·
  replace c6 := Bool.eq_false_iff.mpr c6
  subst c6
  have H1 : (some t102) = some r := by rw [if_neg (show ¬ (false = true) by decide)] at H; exact H
  clear H
  have H := H1
  clear H1
  obtain rfl := Option.some.inj H
  go_enter Try.func7, Try.ntmps7
  go_wp2_with (first | ((with_reducible refine gate_dst (N := 2) rfl ?_); refine box_event ?hg (N := 2) ?hd (cs := #[.slice A0_0 l0_0.length c0_0, .slice A0_1 l0_1.length c0_1, .slice A0_2 l0_2.length c0_2, .slice A0_3 l0_3.length c0_3, .slice A0_4 l0_4.length c0_4]) (t := 27) ?hr ?_; (case hd => rfl); (case hg => rfl); (case hr => first | (go_simp; done) | (go_simp; rfl)); intro gb101 hg w227 hbox hb; have n0_ := Aside0.mk (below_step (by repeat (first | (with_reducible first | exact HB.out | apply below_alloc | apply pw_below_drewN | apply below_drew1) | exact HB.out)) hb); have n1_ := Aside0.mk (hbox); have n2_ := Aside0.mk ((by rw [hg]; exact (below_size (by repeat (first | (with_reducible first | exact HB.out | apply below_alloc | apply pw_below_drewN | apply below_drew1) | exact HB.out))) : w.heap.size ≤ gb101)); have n3_ := Aside0.mk ((by rw [hg]; exact (below_size (by repeat (first | (with_reducible first | exact HB.out | apply below_alloc | apply pw_below_drewN | apply below_drew1) | exact HB.out))) : w.heap.size ≤ gb101)); clear HB; have HB := n0_; have BK101 := n1_; have GW101 := n2_; have GE101 := n3_; clear n0_ n1_ n2_ n3_; clear hb hbox hg) | ((with_reducible refine gate_callee (f := 11) rfl ?_); refine goesL_ (some 10) rfl rfl Try.func11 (by kernel_rfl) rfl #[] rfl (by (try simp only [List.map_toArray, List.map_cons, List.map_nil]); first | done | rfl | (simp only [List.length_drop, List.length_take]; rfl)) ?_; (with_reducible refine (longcaselaw06_shown.calls  t102 _ A3.out).mono ?_); rintro e w228 ⟨rfl, hb⟩; refine ⟨_, rfl, ?_⟩; have n0_ := kbb BK101 hb; have n1_ := Aside0.mk (below_step (by repeat (first | (with_reducible first | exact HB.out | apply below_alloc | apply pw_below_drewN | apply below_drew1 | refine below_set ?_ GE101.out) | exact HB.out)) hb); clear BK101; clear HB; have BK101 := n0_; have HB := n1_; clear n0_ n1_; (try clear hb); (try clear hb2); (try clear hk); (try clear hi); have hcz229_0 := kc BK101 0 rfl; have hcz229_1 := kc BK101 1 rfl; have hcz229_2 := kc BK101 2 rfl; have hcz229_3 := kc BK101 3 rfl; have hcz229_4 := kc BK101 4 rfl; have hfz229_0 := blk_frozen BK101.out 0; have hfz229_1 := blk_frozen BK101.out 1; have hfz229_2 := blk_frozen BK101.out 2; have hfz229_3 := blk_frozen BK101.out 3; have hfz229_4 := blk_frozen BK101.out 4) | ((with_reducible refine gate_callee (f := 12) rfl ?_); refine goesL_ (some 12) rfl rfl Try.func12 (by kernel_rfl) rfl #[.agg #[.slice A0_0 l0_0.length c0_0, .slice A0_1 l0_1.length c0_1, .slice A0_2 l0_2.length c0_2, .slice A0_3 l0_3.length c0_3, .slice A0_4 l0_4.length c0_4]] rfl (by (try simp only [List.map_toArray, List.map_cons, List.map_nil]); first | done | rfl | (simp only [List.length_drop, List.length_take]; rfl)) ?_; (with_reducible refine (longcaselaw06_few.calls _ _ l0_0 _ _ l0_1 _ _ l0_2 _ _ l0_3 _ _ l0_4 t103 t106 t109 t112 t115 _ ?side1 ?side2 ?side3 ?side4 ?side5 ?side6 ?side7 ?side8 ?side9 ?side10 A4.out).mono ?_); (case side1 => repeat (first | exact (Kd.C_below HR0_0.out HB.out) | (with_reducible refine Kd.C_alloc ?_ _) | (with_reducible refine Kd.C_drewN ?_ _) | (with_reducible refine Kd.C_drew ?_))); (case side2 => exact HC0_0.out); (case side3 => repeat (first | exact (Kd.C_below HR0_1.out HB.out) | (with_reducible refine Kd.C_alloc ?_ _) | (with_reducible refine Kd.C_drewN ?_ _) | (with_reducible refine Kd.C_drew ?_))); (case side4 => exact HC0_1.out); (case side5 => repeat (first | exact (Kd.C_below HR0_2.out HB.out) | (with_reducible refine Kd.C_alloc ?_ _) | (with_reducible refine Kd.C_drewN ?_ _) | (with_reducible refine Kd.C_drew ?_))); (case side6 => exact HC0_2.out); (case side7 => repeat (first | exact (Kd.C_below HR0_3.out HB.out) | (with_reducible refine Kd.C_alloc ?_ _) | (with_reducible refine Kd.C_drewN ?_ _) | (with_reducible refine Kd.C_drew ?_))); (case side8 => exact HC0_3.out); (case side9 => repeat (first | exact (Kd.C_below HR0_4.out HB.out) | (with_reducible refine Kd.C_alloc ?_ _) | (with_reducible refine Kd.C_drewN ?_ _) | (with_reducible refine Kd.C_drew ?_))); (case side10 => exact HC0_4.out); rintro e w230 ⟨v104, v107, v110, v113, v116, rfl, ho0, ho1, ho2, ho3, ho4, hb⟩; refine ⟨_, rfl, ?_⟩; have n0_ := Aside0.mk (Kd.R_lower ho0 (below_size (by repeat (first | (with_reducible first | exact HB.out | apply below_alloc | apply pw_below_drewN | apply below_drew1 | refine below_set ?_ GE101.out) | exact HB.out)))); have n1_ := Aside0.mk (Kd.R_lower ho1 (below_size (by repeat (first | (with_reducible first | exact HB.out | apply below_alloc | apply pw_below_drewN | apply below_drew1 | refine below_set ?_ GE101.out) | exact HB.out)))); have n2_ := Aside0.mk (Kd.R_lower ho2 (below_size (by repeat (first | (with_reducible first | exact HB.out | apply below_alloc | apply pw_below_drewN | apply below_drew1 | refine below_set ?_ GE101.out) | exact HB.out)))); have n3_ := Aside0.mk (Kd.R_lower ho3 (below_size (by repeat (first | (with_reducible first | exact HB.out | apply below_alloc | apply pw_below_drewN | apply below_drew1 | refine below_set ?_ GE101.out) | exact HB.out)))); have n4_ := Aside0.mk (Kd.R_lower ho4 (below_size (by repeat (first | (with_reducible first | exact HB.out | apply below_alloc | apply pw_below_drewN | apply below_drew1 | refine below_set ?_ GE101.out) | exact HB.out)))); have n5_ := kbb BK101 hb; have n6_ := Aside0.mk (below_step (by repeat (first | (with_reducible first | exact HB.out | apply below_alloc | apply pw_below_drewN | apply below_drew1 | refine below_set ?_ GE101.out) | exact HB.out)) hb); clear BK101; clear HB; have HO105 := n0_; have HO108 := n1_; have HO111 := n2_; have HO114 := n3_; have HO117 := n4_; have BK101 := n5_; have HB := n6_; clear n0_ n1_ n2_ n3_ n4_ n5_ n6_; (try clear hb); (try clear hb2); (try clear hk); (try clear hi); (try clear ho0); (try clear ho1); (try clear ho2); (try clear ho3); (try clear ho4); obtain ⟨Ao231, co231, eo231⟩ := Kd.R_slice HO105.out; subst eo231; have hcz232_0 := kc BK101 0 rfl; have hcz232_1 := kc BK101 1 rfl; have hcz232_2 := kc BK101 2 rfl; have hcz232_3 := kc BK101 3 rfl; have hcz232_4 := kc BK101 4 rfl; have hfz232_0 := blk_frozen BK101.out 0; have hfz232_1 := blk_frozen BK101.out 1; have hfz232_2 := blk_frozen BK101.out 2; have hfz232_3 := blk_frozen BK101.out 3; have hfz232_4 := blk_frozen BK101.out 4; obtain ⟨Ao233, co233, eo233⟩ := Kd.R_slice HO108.out; subst eo233; obtain ⟨Ao234, co234, eo234⟩ := Kd.R_slice HO111.out; subst eo234; obtain ⟨Ao235, co235, eo235⟩ := Kd.R_slice HO114.out; subst eo235; obtain ⟨Ao236, co236, eo236⟩ := Kd.R_slice HO117.out; subst eo236) | ((with_reducible refine gate_callee (f := 16) rfl ?_); refine goesL_ (some 14) rfl rfl Try.func16 (by kernel_rfl) rfl #[.agg #[.slice Ao231 t103.length co231, .slice Ao233 t106.length co233, .slice Ao234 t109.length co234, .slice Ao235 t112.length co235, .slice Ao236 t115.length co236], .int .i64 8, .int .i64 4] rfl (by (try simp only [List.map_toArray, List.map_cons, List.map_nil]); first | done | rfl | (simp only [List.length_drop, List.length_take]; rfl)) ?_; (with_reducible refine (block_Right.calls _ _ t103 _ _ t106 _ _ t109 _ _ t112 _ _ t115 8 4 false _ ?side1 ?side2 ?side3 ?side4 ?side5 ?side6 ?side7 ?side8 ?side9 ?side10 A5.out).mono ?_); (case side1 => refine (Kd.R_reads' (e := 56) (base := w.heap.size) (ok := fun k_ => True) (n := t103.length) (c := co231) ?_).2.2; exact (by (with_reducible repeat (first | apply Kd.R_alloc | apply Kd.R_drewN | apply Kd.R_drew)); exact (rp5 HO105 BK101))); (case side2 => exact (Kd.R_reads' HO105.out).2.1); (case side3 => refine (Kd.R_reads' (e := 54) (base := w.heap.size) (ok := fun k_ => True) (n := t106.length) (c := co233) ?_).2.2; exact (by (with_reducible repeat (first | apply Kd.R_alloc | apply Kd.R_drewN | apply Kd.R_drew)); exact (rp5 HO108 BK101))); (case side4 => exact (Kd.R_reads' HO108.out).2.1); (case side5 => refine (Kd.R_reads' (e := 67) (base := w.heap.size) (ok := fun k_ => True) (n := t109.length) (c := co234) ?_).2.2; exact (by (with_reducible repeat (first | apply Kd.R_alloc | apply Kd.R_drewN | apply Kd.R_drew)); exact (rp5 HO111 BK101))); (case side6 => exact (Kd.R_reads' HO111.out).2.1); (case side7 => refine (Kd.R_reads' (e := 4) (base := w.heap.size) (ok := fun k_ => some k_ ≠ (.slice Ao236 t115.length co236 : Value).ownBlock) (n := t112.length) (c := co235) ?_).2.2; exact (by (with_reducible repeat (first | apply Kd.R_alloc | apply Kd.R_drewN | apply Kd.R_drew)); exact (rp5 HO114 BK101))); (case side8 => exact (Kd.R_reads' HO114.out).2.1); (case side9 => refine (Kd.R_reads' (e := 4) (base := w.heap.size) (ok := fun k_ => some k_ ≠ (.slice Ao235 t112.length co235 : Value).ownBlock) (n := t115.length) (c := co236) ?_).2.2; exact (by (with_reducible repeat (first | apply Kd.R_alloc | apply Kd.R_drewN | apply Kd.R_drew)); exact (rp5 HO117 BK101))); (case side10 => exact (Kd.R_reads' HO117.out).2.1); rintro e w237 ⟨rfl, hb⟩; refine ⟨_, rfl, ?_⟩; have n0_ := Aside0.mk (Kd.R_below (by (with_reducible repeat (first | apply Kd.R_alloc | apply Kd.R_drewN | apply Kd.R_drew)); exact (rp5 HO105 BK101)) hb); have n1_ := Aside0.mk (Kd.R_below (by (with_reducible repeat (first | apply Kd.R_alloc | apply Kd.R_drewN | apply Kd.R_drew)); exact (rp5 HO108 BK101)) hb); have n2_ := Aside0.mk (Kd.R_below (by (with_reducible repeat (first | apply Kd.R_alloc | apply Kd.R_drewN | apply Kd.R_drew)); exact (rp5 HO111 BK101)) hb); have n3_ := Aside0.mk (Kd.R_below (by (with_reducible repeat (first | apply Kd.R_alloc | apply Kd.R_drewN | apply Kd.R_drew)); exact (rp5 HO114 BK101)) hb); have n4_ := Aside0.mk (Kd.R_below (by (with_reducible repeat (first | apply Kd.R_alloc | apply Kd.R_drewN | apply Kd.R_drew)); exact (rp5 HO117 BK101)) hb); have n5_ := Aside0.mk (blk_below (g := gb101) (o := .cells #[.slice Ao231 t103.length co231, .slice Ao233 t106.length co233, .slice Ao234 t109.length co234, .slice Ao235 t112.length co235, .slice Ao236 t115.length co236] 27 (0, 0)) (by (with_reducible repeat (first | refine blk_drewN ?_ _ | refine blk_drew ?_ | refine blk_alloc ?_ _)); refine blk_put (cs := #[.slice Ao231 t103.length co231, .slice Ao233 t106.length co233, .slice Ao234 t109.length co234, .slice Ao235 t112.length co235, .slice A0_4 l0_4.length c0_4]) ?_ 4 _ rfl; (with_reducible repeat (first | refine blk_drewN ?_ _ | refine blk_drew ?_ | refine blk_alloc ?_ _)); refine blk_put (cs := #[.slice Ao231 t103.length co231, .slice Ao233 t106.length co233, .slice Ao234 t109.length co234, .slice A0_3 l0_3.length c0_3, .slice A0_4 l0_4.length c0_4]) ?_ 3 _ rfl; (with_reducible repeat (first | refine blk_drewN ?_ _ | refine blk_drew ?_ | refine blk_alloc ?_ _)); refine blk_put (cs := #[.slice Ao231 t103.length co231, .slice Ao233 t106.length co233, .slice A0_2 l0_2.length c0_2, .slice A0_3 l0_3.length c0_3, .slice A0_4 l0_4.length c0_4]) ?_ 2 _ rfl; (with_reducible repeat (first | refine blk_drewN ?_ _ | refine blk_drew ?_ | refine blk_alloc ?_ _)); refine blk_put (cs := #[.slice Ao231 t103.length co231, .slice A0_1 l0_1.length c0_1, .slice A0_2 l0_2.length c0_2, .slice A0_3 l0_3.length c0_3, .slice A0_4 l0_4.length c0_4]) ?_ 1 _ rfl; (with_reducible repeat (first | refine blk_drewN ?_ _ | refine blk_drew ?_ | refine blk_alloc ?_ _)); refine blk_put (cs := #[.slice A0_0 l0_0.length c0_0, .slice A0_1 l0_1.length c0_1, .slice A0_2 l0_2.length c0_2, .slice A0_3 l0_3.length c0_3, .slice A0_4 l0_4.length c0_4]) ?_ 0 _ rfl; (with_reducible repeat (first | refine blk_drewN ?_ _ | refine blk_drew ?_ | refine blk_alloc ?_ _)); exact BK101.out) hb); have n6_ := Aside0.mk (below_step (by repeat (first | (with_reducible first | exact HB.out | apply below_alloc | apply pw_below_drewN | apply below_drew1 | refine below_set ?_ GE101.out) | exact HB.out)) hb); clear HO105; clear HO108; clear HO111; clear HO114; clear HO117; clear BK101; clear HB; have HO105 := n0_; have HO108 := n1_; have HO111 := n2_; have HO114 := n3_; have HO117 := n4_; have BK101 := n5_; have HB := n6_; clear n0_ n1_ n2_ n3_ n4_ n5_ n6_; (try clear hb); (try clear hb2); (try clear hk); (try clear hi)))
  go_ret
  exact ⟨by first | rfl | (simp [errW_none, errW_some] <;> rfl) | (simp [*, errW_none, errW_some] <;> rfl), by repeat (first | (with_reducible first | exact HB.out | apply below_alloc | apply pw_below_drewN | apply below_drew1 | refine below_set ?_ GE101.out) | exact HB.out)⟩
end Go.Proofs.Ythobnoknbdljgaa.PL4
end
section
namespace Go.Proofs.Ythobnoknbdljgaa
open Go.RowKit Hand PB0 Go.Proofs.YthobnoknbdljgaaW.PrintWords Oct
structure NmInv (st : NmS) (l : List ByteArray) : Prop where
 place : ∀ s p, st.2.1 s = some p → ∃ pre post : List UInt8, st.1 = pre ++ s.data.toList ++ 0 :: post ∧ pre.length = p
 at_ : ∀ i (h : i < l.length), ∃ p, st.2.1 l[i] = some p ∧ st.2.2[i]? = some ((p : Int) % 256)
 len : st.2.2.length = l.length
theorem nm_inv (l : List ByteArray) : NmInv (nmSt l) l := by
 induction l using rev_ind with
 | h0 => exact ⟨fun s p h => (by cases h), fun i h => absurd h (Nat.not_lt_zero i), rfl⟩
 | hs l s ih =>
  rw [nmSt_snoc]
  have fin : ∀ (st' : NmS) (p : Nat), st'.2.1 s = some p → (∀ t q, (nmSt l).2.1 t = some q → st'.2.1 t = some q) → st'.2.2 = (nmSt l).2.2 ++ [((p : Nat) : Int) % 256] →
    (∀ s p, st'.2.1 s = some p → ∃ pre post : List UInt8, st'.1 = pre ++ s.data.toList ++ 0 :: post ∧ pre.length = p) → NmInv st' (l ++ [s]) := by
   intro st' p h1 h2 h3 h4
   refine ⟨h4, ?_, by rw [h3, List.length_append, List.length_append, ih.len]; rfl⟩
   intro i hi
   rw [List.length_append] at hi
   by_cases hlt : i < l.length
   ·
    obtain ⟨q, hq, hat⟩ := ih.at_ i hlt
    refine ⟨q, ?_, ?_⟩
    ·
     rw [List.getElem_append_left hlt]
     exact h2 _ _ hq
    ·
     rw [h3, List.getElem?_append_left (by rw [ih.len]; exact hlt)]
     exact hat
   ·
    have e : i = l.length := by simp at hi; omega
    subst e
    refine ⟨p, ?_, ?_⟩
    ·
     rw [List.getElem_append_right (Nat.le_refl _)]
     simpa using h1
    ·
     rw [h3, List.getElem?_append_right (by rw [ih.len]; exact Nat.le_refl _), ih.len]
     simp
  unfold nmStep
  split
  ·
   rename_i p hp
   exact fin _ p hp (fun t q h => h) rfl ih.place
  ·
   rename_i hn
   refine fin _ (nmSt l).1.length (by dsimp only; rw [if_pos rfl]) ?_ rfl ?_
   ·
    intro t q h
    dsimp only
    rw [if_neg (fun e => by rw [e, hn] at h; cases h)]
    exact h
   ·
    intro t q h
    dsimp only at h ⊢
    by_cases e : t = s
    ·
     subst e
     rw [if_pos rfl] at h
     injection h with h
     subst h
     exact ⟨(nmSt l).1, [], by simp, rfl⟩
    ·
     rw [if_neg e] at h
     obtain ⟨pre, post, h1, h2⟩ := ih.place t q h
     exact ⟨pre, post ++ s.data.toList ++ [0], by rw [h1]; simp, h2⟩
end Go.Proofs.Ythobnoknbdljgaa
end
section
namespace Go.Proofs.Ythobnoknbdljgaa
open Go.RowKit Hand PB0 Go.Proofs.YthobnoknbdljgaaW.PrintWords Oct
theorem drop_pre (X Y : List Int) (p q : Nat) (h : X.length = p) : (X ++ Y).drop (p + q) = Y.drop q := by
 subst h
 rw [← List.drop_drop, List.drop_append_of_le_length (Nat.le_refl _), List.drop_of_length_le (Nat.le_refl _), List.nil_append]
theorem flat_drop {α : Type} (f : α → List Int) (c : Nat) (l : List α) (h : ∀ x ∈ l, (f x).length = c) (i : Nat) (hi : i ≤ l.length) : (l.flatMap f).drop (c * i) = (l.drop i).flatMap f := by
 induction i generalizing l with
 | zero => simp
 | succ i ih =>
  cases l with
  | nil => simp at hi
  | cons x l =>
   have hx := h x (List.mem_cons_self ..)
   rw [List.flatMap_cons, List.drop_succ_cons, Nat.mul_succ, Nat.add_comm, drop_pre _ _ c (c * i) hx]
   exact ih l (fun y hy => h y (List.mem_cons_of_mem _ hy)) (by simp at hi; omega)
theorem flat_at {α : Type} (f : α → List Int) (c : Nat) (l : List α) (h : ∀ x ∈ l, (f x).length = c) (i : Nat) (hi : i < l.length) (rest : List Int) :
  (l.flatMap f ++ rest).drop (c * i) = f l[i] ++ ((l.drop (i + 1)).flatMap f ++ rest) := by
 have hl : (l.flatMap f).length = c * l.length := by
  rw [List.length_flatMap]
  clear hi
  induction l with
  | nil => rfl
  | cons x l ih => rw [List.map_cons, List.sum_cons, h x (List.mem_cons_self ..), ih (fun y hy => h y (List.mem_cons_of_mem _ hy)), List.length_cons, Nat.mul_succ, Nat.add_comm]
 have hc : c * i ≤ c * l.length := Nat.mul_le_mul_left c (Nat.le_of_lt hi)
 rw [List.drop_append_of_le_length (by omega), flat_drop f c l h i (Nat.le_of_lt hi), List.drop_eq_getElem_cons hi, List.flatMap_cons, List.append_assoc]
theorem flat_length {α : Type} (f : α → List Int) (c : Nat) (l : List α) (h : ∀ x ∈ l, (f x).length = c) : (l.flatMap f).length = c * l.length := by
 rw [List.length_flatMap]
 induction l with
 | nil => rfl
 | cons x l ih => rw [List.map_cons, List.sum_cons, h x (List.mem_cons_self ..), ih (fun y hy => h y (List.mem_cons_of_mem _ hy)), List.length_cons, Nat.mul_succ, Nat.add_comm]
section
variable (m : Nat) (K : List S56) (J : List S54) (L : List S67) (S U : List Bool)
def pJA : List Int := J.flatMap (jA m)
def pJB : List Int := J.flatMap jB
def pK : List Int := (K.zip (nmSt (names K)).2.2).flatMap kA
def pN : List Int := bytesOf ⟨(nmSt (names K)).1.toArray⟩
def pL : List Int := L.flatMap (lA m)
theorem encL_parts : encL m K J L S U = pJA m J ++ (pJB J ++ (pK K ++ (pN K ++ (pL m L ++ (tr S ++ tr U))))) := by
 unfold encL pJA pJB pK pN pL
 simp only [List.append_assoc]
theorem pJA_len : (pJA m J).length = m * J.length := flat_length _ _ _ (fun x _ => jA_len m x)
theorem pJB_len : (pJB J).length = J.length := by unfold pJB; rw [flat_length jB 1 J (fun x _ => rfl), Nat.one_mul]
theorem zip_len : (K.zip (nmSt (names K)).2.2).length = K.length := by rw [List.length_zip, (nmSt_len _).2]; simp [names]
theorem at_o1 (q : Nat) : (encL m K J L S U).drop (o1 m J.length + q) = (pK K ++ (pN K ++ (pL m L ++ (tr S ++ tr U)))).drop q := by
 have h : o1 m J.length + q = m * J.length + (J.length + q) := by unfold o1; rw [Nat.add_mul]; omega
 rw [h, encL_parts, drop_pre _ _ _ _ (pJA_len m J), drop_pre _ _ _ _ (pJB_len J)]
theorem kind_at (i : Nat) (hi : i < K.length) : ∃ (p : Nat) (rest : List Int), (encL m K J L S U).drop (o1 m J.length + 6 * i) = be 4 (u64w K[i].f0) ++ (b1 K[i].f1 :: ((p : Int) % 256) :: rest) ∧ (∃ pre post : List UInt8, (nmSt (names K)).1 = pre ++ K[i].f2.data.toList ++ 0 :: post ∧ pre.length = p) := by
 have hl : (names K).length = K.length := by simp [names]
 have hz : i < (K.zip (nmSt (names K)).2.2).length := by rw [zip_len]; exact hi
 have inv := nm_inv (names K)
 obtain ⟨p, hp, hat⟩ := inv.at_ i (by omega)
 have hn : (names K)[i]'(by omega) = K[i].f2 := by simp [names]
 rw [hn] at hp
 have hat2 : (nmSt (names K)).2.2[i]'(by rw [inv.len]; omega) = (p : Int) % 256 := by
  rw [List.getElem?_eq_getElem (by rw [inv.len]; omega)] at hat
  exact Option.some.inj hat
 obtain ⟨pre, post, h1, h2⟩ := inv.place _ p hp
 refine ⟨p, ((K.zip (nmSt (names K)).2.2).drop (i + 1)).flatMap kA ++ (pN K ++ (pL m L ++ (tr S ++ tr U))), ?_, pre, post, h1, h2⟩
 rw [at_o1]
 have e := flat_at kA 6 _ (fun x _ => kA_len x) i hz (pN K ++ (pL m L ++ (tr S ++ tr U)))
 have ek : kA (K.zip (nmSt (names K)).2.2)[i] = be 4 (u64w K[i].f0) ++ [b1 K[i].f1] ++ [(p : Int) % 256] := by
  rw [List.getElem_zip, hat2]
  rfl
 rw [ek] at e
 unfold pK
 rw [e]
 simp
end
end Go.Proofs.Ythobnoknbdljgaa
end
section
namespace Go.Proofs.Ythobnoknbdljgaa.Hand
open Go.ChangeShapes Go.WideShapes Go.Deep Go.Joins Go.RowKit Go.Proofs.YthobnoknbdljgaaW.PrintWords PB0
section
variable {H : Type} {enc : TypeId × Value → H} {P : Program} {w : World} {base : Nat} {spare : Nat → Bool} {held : Bool}
theorem open_C {α : Type} [Inhabited α] (d : Kd α) (good : α → Prop) {t e : TypeId} {fuel : Nat} {cs : List Value} {x : DataW H × List MemPlace} (ht : P.underlying t = some (.slice e)) (hc : P.cellsOf e = d.sz)
  (hel : ∀ (n : Nat) (cs' : List Value) (y : DataW H × List MemPlace), DataW.trod enc P w base spare held n e cs' = some y → cs'.length = d.sz → ∃ q : α, d.K w q cs' ∧ good q)
  (h : DataW.trod enc P w base spare held fuel t cs = some x) :
  ∃ (A : Option Addr) (c : Nat) (xs : List α), cs = [.slice A xs.length c] ∧ d.C w A xs.length xs ∧ xs.length ≤ c ∧ ∀ q ∈ xs, good q := by
 rcases open_slice ht h with ⟨rfl, _⟩ | ⟨a, len, cap, m, n, D, Pl, rfl, hb, hl, hm, hmm, hx, hi⟩
 ·
  exact ⟨none, 0, [], rfl, ⟨rfl, by simp, fun h => by simp at h⟩, Nat.le_refl _, fun q hq => by cases hq⟩
 ·
  have hlm : len ≤ m := by rw [hmm]; split <;> omega
  have each : ∀ i, i < len → ∃ q : α, good q ∧ ∃ c : List Value, c.length = d.sz ∧ d.K w q c ∧ ∀ k u, c[k]? = some u → w.cell? (a.add (i * d.sz + k)) = some u := by
   intro i hlt
   obtain ⟨cs', h1, h2⟩ := hi i (by omega)
   obtain ⟨_, hlen, hcell⟩ := World.cells?_some h1
   rw [hc] at hlen hcell
   obtain ⟨q, hq, hg⟩ := hel _ _ _ h2 hlen
   refine ⟨q, hg, cs', hlen, hq, fun k u hu => ?_⟩
   have hk : k < d.sz := by have := (List.getElem?_eq_some_iff.1 hu).1; omega
   rw [← Go.Deep.add_add, hcell k hk, hu]
  obtain ⟨q, hq⟩ := choose_lt each
  have hl2 : ((List.range len).map q).length = len := by simp
  refine ⟨some a, cap, (List.range len).map q, by rw [hl2], ?_, by rw [hl2]; exact hl, ?_⟩
  ·
   rw [hl2]
   refine ⟨hl2, by have : maxLen = 2 ^ 63 - 1 := rfl; omega, fun _ => ⟨a, rfl, fun j p hp => ?_⟩⟩
   rw [List.getElem?_map] at hp
   obtain ⟨i, hi1, hi2⟩ := Option.map_eq_some_iff.1 hp
   obtain ⟨hi3, hi4⟩ := List.getElem?_eq_some_iff.1 hi1
   rw [List.getElem_range] at hi4
   subst hi4
   rw [List.length_range] at hi3
   subst hi2
   obtain ⟨_, c, h1, h2, h3⟩ := hq j hi3
   exact ⟨c, h1, h2, h3⟩
  ·
   intro p hp
   obtain ⟨i, hi1, rfl⟩ := List.mem_map.1 hp
   exact (hq i (List.mem_range.1 hi1)).1
end
instance : Inhabited S56 := ⟨⟨0, false, ⟨#[]⟩⟩⟩
instance : Inhabited S54 := ⟨⟨0, 0⟩⟩
instance : Inhabited S67 := ⟨⟨0, 0⟩⟩
def wfi (n : Int) : Prop := -9223372036854775808 ≤ n ∧ n ≤ 9223372036854775807
theorem wfi_of {n : Int} (h : (Lit.int .i64 n).wf = true) : wfi n := by
 simp only [Lit.wf, Bool.and_eq_true, decide_eq_true_eq] at h
 have h1 : IntKind.i64.min = -9223372036854775808 := by decide
 have h2 : IntKind.i64.max = 9223372036854775807 := by decide
 rw [h1, h2] at h
 unfold wfi
 omega
def good56 (x : S56) : Prop := wfi x.f0
def good54 (x : S54) : Prop := wfi x.f0 ∧ wfi x.f1
def good67 (x : S67) : Prop := wfi x.f0 ∧ wfi x.f1
section
variable {H : Type} {enc : TypeId × Value → H} {w : World} {base : Nat} {spare : Nat → Bool} {held : Bool} {fuel : Nat} {cs : List Value} {x : DataW H × List MemPlace}
set_option maxRecDepth 100000 in
theorem open56 (h : DataW.trod enc Try.prog w base spare held fuel 22 cs = some x) : ∃ (A : Option Addr) (c : Nat) (xs : List S56), cs = [.slice A xs.length c] ∧ Kd.C k56 w A xs.length xs ∧ xs.length ≤ c ∧ ∀ q ∈ xs, good56 q := by
 refine open_C k56 good56 Try.underlying22 (by kernel_rfl) ?_ h
 intro n cs' y h hl
 obtain ⟨y0, y1, y2, m, _, _, h0, h1, h2⟩ := trod_struct3 Try.underlying56 h
 match cs', (show cs'.length = 3 from hl) with
 | [a, b, c], _ =>
  obtain ⟨z0, e0, _, hw⟩ := DataW.trod_int (by kernel_rfl) h0
  obtain ⟨z1, e1, _⟩ := DataW.trod_bool (by kernel_rfl) h1
  obtain ⟨z2, e2, _, _⟩ := DataW.trod_string (by kernel_rfl) h2
  have e0' : [a] = [.int .i64 z0] := by rw [← e0]; kernel_rfl
  have e1' : [b] = [.bool z1] := by rw [← e1]; kernel_rfl
  have e2' : [c] = [.string z2] := by rw [← e2]; kernel_rfl
  injection e0' with e0'
  injection e1' with e1'
  injection e2' with e2'
  subst e0' e1' e2'
  exact ⟨⟨z0, z1, z2⟩, k56_mk _ _, wfi_of hw⟩
set_option maxRecDepth 100000 in
theorem open54 (h : DataW.trod enc Try.prog w base spare held fuel 23 cs = some x) : ∃ (A : Option Addr) (c : Nat) (xs : List S54), cs = [.slice A xs.length c] ∧ Kd.C k54 w A xs.length xs ∧ xs.length ≤ c ∧ ∀ q ∈ xs, good54 q := by
 refine open_C k54 good54 Try.underlying23 (by kernel_rfl) ?_ h
 intro n cs' y h hl
 obtain ⟨y0, y1, m, _, _, h0, h1⟩ := trod_struct2 Try.underlying54 h
 match cs', (show cs'.length = 2 from hl) with
 | [a, b], _ =>
  obtain ⟨z0, e0, _, hw⟩ := DataW.trod_int (by kernel_rfl) h0
  obtain ⟨z1, e1, _, hw1⟩ := DataW.trod_int (by kernel_rfl) h1
  have e0' : [a] = [.int .i64 z0] := by rw [← e0]; kernel_rfl
  have e1' : [b] = [.int .i64 z1] := by rw [← e1]; kernel_rfl
  injection e0' with e0'
  injection e1' with e1'
  subst e0' e1'
  exact ⟨⟨z0, z1⟩, k54_mk _ _, wfi_of hw, wfi_of hw1⟩
set_option maxRecDepth 100000 in
theorem open67 (h : DataW.trod enc Try.prog w base spare held fuel 24 cs = some x) : ∃ (A : Option Addr) (c : Nat) (xs : List S67), cs = [.slice A xs.length c] ∧ Kd.C k67 w A xs.length xs ∧ xs.length ≤ c ∧ ∀ q ∈ xs, good67 q := by
 refine open_C k67 good67 Try.underlying24 (by kernel_rfl) ?_ h
 intro n cs' y h hl
 obtain ⟨y0, y1, m, _, _, h0, h1⟩ := trod_struct2 Try.underlying67 h
 match cs', (show cs'.length = 2 from hl) with
 | [a, b], _ =>
  obtain ⟨z0, e0, _, hw⟩ := DataW.trod_int (by kernel_rfl) h0
  obtain ⟨z1, e1, _, hw1⟩ := DataW.trod_int (by kernel_rfl) h1
  have e0' : [a] = [.int .i64 z0] := by rw [← e0]; kernel_rfl
  have e1' : [b] = [.int .i64 z1] := by rw [← e1]; kernel_rfl
  injection e0' with e0'
  injection e1' with e1'
  subst e0' e1'
  exact ⟨⟨z0, z1⟩, k67_mk _ _, wfi_of hw, wfi_of hw1⟩
theorem openB (h : DataW.trod enc Try.prog w base spare held fuel 25 cs = some x) : ∃ (A : Option Addr) (c : Nat) (xs : List Bool), cs = [.slice A xs.length c] ∧ Kd.C Kd.bool w A xs.length xs ∧ xs.length ≤ c ∧ ∀ q ∈ xs, True := by
 refine open_C Kd.bool (fun _ => True) Try.underlying25 (by kernel_rfl) ?_ h
 intro n cs' y h hl
 obtain ⟨b, e, _⟩ := DataW.trod_bool (by kernel_rfl) h
 exact ⟨b, e, trivial⟩
end
end Go.Proofs.Ythobnoknbdljgaa.Hand
end
section
namespace Go.Proofs.Ythobnoknbdljgaa
open Go.RowKit Hand PB0 Go.Proofs.YthobnoknbdljgaaW.PrintWords Stub Stub2
theorem nmSum_cap (l : List ByteArray) (b : Nat) (h : ∀ s ∈ l, s.size ≤ b) : nmSum l ≤ (b + 1) * l.length := by
 induction l with
 | nil => simp [nmSum]
 | cons a l ih =>
  have h1 := h a (by simp)
  have h2 := ih (fun s hs => h s (by simp [hs]))
  have e : nmSum (a :: l) = (a.size + 1) + nmSum l := by simp [nmSum]
  rw [e, List.length_cons, Nat.mul_add]
  omega
theorem cutK_size (x : S56) : (cutK x).f2.size ≤ 60 := by
 unfold cutK
 show (x.f2.extract 0 (min x.f2.size 60)).size ≤ 60
 rw [ByteArray.size_extract]
 omega
structure Small (K : List S56) (J : List S54) (L : List S67) (S U : List Bool) : Prop where
 k : K.length ≤ 40
 j : J.length ≤ 100
 l : L.length ≤ 50
 s : S.length ≤ 40
 u : U.length ≤ 40
 n : ∀ x ∈ K, x.f2.size ≤ 60
 gk : ∀ x ∈ K, good56 x
 gj : ∀ x ∈ J, good54 x
 gl : ∀ x ∈ L, good67 x
theorem small_few {l0 : List S56} {l1 : List S54} {l2 : List S67} {l3 l4 : List Bool} (g0 : ∀ x ∈ l0, good56 x) (g1 : ∀ x ∈ l1, good54 x) (g2 : ∀ x ∈ l2, good67 x) :
  ∃ K J L S U, longcaselaw06_few.f l0 l1 l2 l3 l4 = some (K, J, L, S, U) ∧ Small K J L S U := by
 refine ⟨_, _, _, _, _, rfl, ?_⟩
 constructor
 ·
  rw [List.length_map, List.length_take]; omega
 ·
  rw [List.length_take]; omega
 ·
  rw [List.length_take]; omega
 ·
  rw [List.length_take]; omega
 ·
  rw [List.length_take]; omega
 ·
  intro x hx
  obtain ⟨y, _, rfl⟩ := List.mem_map.1 hx
  exact cutK_size y
 ·
  intro x hx
  obtain ⟨y, hy, rfl⟩ := List.mem_map.1 hx
  exact g0 y (List.mem_of_mem_take hy)
 ·
  exact fun x hx => g1 x (List.mem_of_mem_take hx)
 ·
  exact fun x hx => g2 x (List.mem_of_mem_take hx)
section
variable {K : List S56} {J : List S54} {L : List S67} {S U : List Bool}
theorem Small.ok (h : Small K J L S U) : encOK K J L S U := by
 have hn := nmSum_cap (names K) 60 (by
  intro s hs
  unfold names at hs
  obtain ⟨x, hx, rfl⟩ := List.mem_map.1 hs
  exact h.n x hx)
 have hl : (names K).length = K.length := by simp [names]
 rw [hl] at hn
 have := h.k
 have := h.j
 have := h.l
 have := h.s
 have := h.u
 unfold encOK
 omega
theorem Small.right (h : Small K J L S U) (a b : Int) : block_Right.f K J L S U a b = some (rightB a b K J L S U) := by
 unfold block_Right.f
 rw [if_pos h.ok]
theorem Small.enc (h : Small K J L S U) {m : Nat} {v : Int} (hv : 1 ≤ v ∧ v ≤ 4) (hr : rightB m v K J L S U = true) :
  Stub2.block_Encode.f K J L S U (m : Int) v = some (encL m K J L S U, v, (U.length : Int), (S.length : Int), (L.length : Int), (J.length : Int), (K.length : Int), ((nmSt (names K)).1.length : Int), 0) := by
 unfold Stub2.block_Encode.f encR
 rw [if_pos h.ok, if_pos ⟨hv.1, hv.2, hr⟩, Int.toNat_natCast]
theorem Small.same (h : Small K J L S U) : longcaseref06_Same.f K J L S U K J L S U = some true := by
 have h := h.ok
 unfold longcaseref06_Same.f sameB
 rw [if_pos ⟨h.1, h.2.2.1, h.2.2.2.1, h.2.2.2.2.1, h.2.2.2.2.2⟩]
 simp
end
end Go.Proofs.Ythobnoknbdljgaa
end
section
namespace Go.Proofs.Ythobnoknbdljgaa
open Go.RowKit Hand PB0 Go.Proofs.YthobnoknbdljgaaW.PrintWords Stub Stub2 PL4
theorem cutK_self {x : S56} (h : x.f2.size ≤ 60) : cutK x = x := by
 unfold cutK
 rw [Nat.min_eq_left h, ByteArray.extract_zero_size]
section
variable {K : List S56} {J : List S54} {L : List S67} {S U : List Bool}
theorem Small.idem (h : Small K J L S U) : longcaselaw06_few.f K J L S U = some (K, J, L, S, U) := by
 unfold longcaselaw06_few.f
 rw [List.take_of_length_le h.k, List.take_of_length_le h.j, List.take_of_length_le h.l, List.take_of_length_le h.s, List.take_of_length_le h.u]
 have : K.map cutK = K := by
  conv => rhs; rw [← List.map_id K]
  exact List.map_congr_left fun x hx => cutK_self (h.n x hx)
 rw [this]
end
theorem rd54_pre (J : List S54) (x : S54) (i : Int) (h : i.toNat < J.length) : rd_T54 (J ++ [x]) i = rd_T54 J i := by
 unfold rd_T54
 rw [List.getD_eq_getElem?_getD, List.getD_eq_getElem?_getD, List.getElem?_append_left h]
theorem rd54_end (J : List S54) (x : S54) : rd_T54 (J ++ [x]) (J.length : Int) = x := by
 unfold rd_T54
 simp
theorem jumped_snoc (nk : Int) (J : List S54) (x : S54) (h : jumpedB nk 8 J = true) (hl : J.length ≤ 100) : jumpedB nk 8 (J ++ [x]) = jokB nk 8 (J ++ [x]) J.length := by
 unfold jumpedB at h ⊢
 rw [Bool.and_eq_true] at h
 rw [List.length_append, List.length_singleton, all_succ]
 have h1 : (List.range J.length).all (jokB nk 8 (J ++ [x])) = true := by
  refine List.all_eq_true.2 fun k hk => ?_
  have hk' := List.mem_range.1 hk
  have := List.all_eq_true.1 h.1 k hk
  unfold jokB at this ⊢
  by_cases h0 : k = 0
  ·
   subst h0
   rw [rd54_pre J x _ (by omega)]
   simpa using this
  ·
   rw [rd54_pre J x _ (by omega), rd54_pre J x _ (by omega)]
   exact this
 rw [h1, Bool.true_and, decide_eq_true (by omega), Bool.and_true]
theorem right_snoc {K : List S56} {J : List S54} {L : List S67} {S U : List Bool} (h : rightB 8 4 K J L S U = true) (x : S54) (hl : J.length ≤ 100) : rightB 8 4 K (J ++ [x]) L S U = jokB (K.length : Int) 8 (J ++ [x]) J.length := by
 unfold rightB at h ⊢
 simp only [Bool.and_eq_true] at h
 obtain ⟨⟨⟨h1, h2⟩, h3⟩, h4⟩ := h
 rw [h2, h4, jumped_snoc _ _ _ h3 hl]
 simp
theorem ok_more {K : List S56} {J : List S54} {L : List S67} {S U : List Bool} (h : Small K J L S U) (x : S54) : encOK K (J ++ [x]) L S U := by
 have q := h.ok
 have := h.j
 unfold encOK at q ⊢
 rw [List.length_append, List.length_singleton]
 omega
theorem right_more {K : List S56} {J : List S54} {L : List S67} {S U : List Bool} (h : Small K J L S U) (x : S54) (a b : Int) : block_Right.f K (J ++ [x]) L S U a b = some (rightB a b K (J ++ [x]) L S U) := by
 unfold block_Right.f
 rw [if_pos (ok_more h x)]
theorem bk_and511 (n : Int) : Go.bits .and .i64 n 511 = n % 512 := by
 have h127 : (BitVec.ofInt 64 511).toNat = 2 ^ 9 - 1 := by decide
 have key : (BitVec.ofInt 64 n &&& BitVec.ofInt 64 511).toNat = (n % ((2 ^ 64 : Nat) : Int)).toNat % 2 ^ 9 := by
  rw [BitVec.toNat_and, BitVec.toNat_ofInt, h127, Nat.and_two_pow_sub_one_eq_mod]
 show IntKind.i64.wrap ((BitVec.ofInt 64 n &&& BitVec.ofInt 64 511).toNat : Nat) = n % 512
 rw [key, IntKind.wrap_i64]
 omega
def lastAt (J : List S54) : Int := if J.length = 0 then 0 else (rd_T54 J ((J.length : Int) - 1)).f0
section
variable {K : List S56} {J : List S54} {L : List S67} {S U : List Bool}
theorem rules_j1 (h : Small K J L S U) (hr : rightB 8 4 K J L S U = true) (k : Nat) : longcaselaw06_BlockRules.j1 (k + 1) true (K.length : Int) K J L S U = some true := by
 have hb := rightB_bd hr
 have hk := h.k
 rw [longcaselaw06_BlockRules.j1, h.idem, Option.bind_some, Hand.w64 (by omega) (by omega), if_pos (by omega), if_pos (by omega), Option.bind_some, if_pos (by omega)]
 dsimp only
 rw [if_pos (by omega), if_pos rfl]
 have e1 : ((K.length : Int) + 1).toNat = K.length + 1 := by omega
 have r1 : block_Right.f K J L (List.replicate ((K.length : Int) + 1).toNat false) U 8 4 = some false := by
  unfold block_Right.f
  have q := h.ok
  rw [if_pos (by unfold encOK at q ⊢; rw [List.length_replicate]; omega)]
  congr 1
  unfold rightB kindedB
  have hc : cntB K (List.replicate ((K.length : Int) + 1).toNat false) U = false := by
   unfold cntB
   rw [List.length_replicate]
   exact decide_eq_false (by omega)
  rw [hc]
  simp
 have hne : 0 < K.length := by omega
 have r2 : block_Right.f (K.set (0 : Int).toNat (⟨(rd_T56 K 0).f0, (rd_T56 K 0).f1, (⟨#[0]⟩ : ByteArray)⟩ : S56)) J L S U 8 4 = some false := by
  unfold block_Right.f
  have hs2 : ∀ x ∈ K.set (0 : Int).toNat (⟨(rd_T56 K 0).f0, (rd_T56 K 0).f1, (⟨#[0]⟩ : ByteArray)⟩ : S56), x.f2.size ≤ 60 := by
   intro x hx
   rcases List.mem_or_eq_of_mem_set hx with hx | rfl
   ·
    exact h.n x hx
   ·
    exact (by decide : (1 : Nat) ≤ 60)
  have hn := nmSum_cap (names (K.set (0 : Int).toNat (⟨(rd_T56 K 0).f0, (rd_T56 K 0).f1, (⟨#[0]⟩ : ByteArray)⟩ : S56))) 60 (by
   intro s hs
   unfold names at hs
   obtain ⟨x, hx, rfl⟩ := List.mem_map.1 hs
   exact hs2 x hx)
  have hl : (names (K.set (0 : Int).toNat (⟨(rd_T56 K 0).f0, (rd_T56 K 0).f1, (⟨#[0]⟩ : ByteArray)⟩ : S56))).length = K.length := by simp [names]
  rw [hl] at hn
  have q := h.ok
  rw [if_pos (by unfold encOK at q ⊢; rw [List.length_set]; omega)]
  congr 1
  unfold rightB kindedB
  have ha : (List.range (K.set (0 : Int).toNat (⟨(rd_T56 K 0).f0, (rd_T56 K 0).f1, (⟨#[0]⟩ : ByteArray)⟩ : S56)).length).all (kokB (K.set (0 : Int).toNat (⟨(rd_T56 K 0).f0, (rd_T56 K 0).f1, (⟨#[0]⟩ : ByteArray)⟩ : S56)) S U) = false := by
   refine all_no (k := 0) _ (by rw [List.length_set]; exact hne) ?_
   unfold kokB
   have e : (rd_T56 (K.set (0 : Int).toNat (⟨(rd_T56 K 0).f0, (rd_T56 K 0).f1, (⟨#[0]⟩ : ByteArray)⟩ : S56)) ((0 : Nat) : Int)).f2 = ⟨#[0]⟩ := by
    obtain ⟨a, t, rfl⟩ : ∃ a t, K = a :: t := by cases K with | nil => simp at hne | cons a t => exact ⟨a, t, rfl⟩
    rfl
   rw [e, show hasZero (⟨#[0]⟩ : ByteArray) = true by decide]
   simp
  rw [ha]
  simp
 rw [r1, Option.bind_some, if_neg (by decide), r2]
 rfl
theorem lastAt_wf (h : Small K J L S U) : -9223372036854775808 ≤ lastAt J ∧ lastAt J ≤ 9223372036854775807 := by
 unfold lastAt
 split
 ·
  omega
 ·
  have e : ((J.length : Int) - 1).toNat < J.length := by omega
  unfold rd_T54
  rw [List.getD_eq_getElem?_getD, List.getElem?_eq_getElem e]
  have := (h.gj _ (List.getElem_mem e)).1
  unfold wfi at this
  simpa using this
theorem rules_j0 (h : Small K J L S U) (hr : rightB 8 4 K J L S U = true) (k : Nat) (a : Int) : longcaselaw06_BlockRules.j0 (k + 2) a true (K.length : Int) (lastAt J) K J L S U = some true := by
 rw [longcaselaw06_BlockRules.j0, h.idem, Option.bind_some]
 have hj := h.j
 split
 ·
  rename_i hlt
  have hw := lastAt_wf h
  dsimp only
  rw [if_pos (by omega), right_more h, Option.bind_some, right_snoc hr _ hj, Hand.w64 (by omega) (by omega), bk_and511]
  have e : jokB (K.length : Int) 8 (J ++ [⟨lastAt J + 1, a % 512⟩]) J.length = decide (a % 512 < (K.length : Int)) := by
   unfold jokB
   rw [rd54_end]
   have e0 : (decide (0 < (J.length : Int)) && decide ((⟨lastAt J + 1, a % 512⟩ : S54).f0 ≤ (rd_T54 (J ++ [⟨lastAt J + 1, a % 512⟩]) ((J.length : Int) - 1)).f0)) = false := by
    by_cases h0 : J.length = 0
    ·
     rw [decide_eq_false (by omega)]
     rfl
    ·
     rw [rd54_pre J _ _ (by omega)]
     have : lastAt J = (rd_T54 J ((J.length : Int) - 1)).f0 := by unfold lastAt; rw [if_neg h0]
     rw [← this, Bool.and_eq_false_iff]
     exact .inr (decide_eq_false (by show ¬ (lastAt J + 1 ≤ lastAt J); omega))
   rw [e0, decide_eq_false (show ¬ ((⟨lastAt J + 1, a % 512⟩ : S54).f1 < 0) by show ¬ (a % 512 < 0); omega)]
   have e2 : fitsB (⟨lastAt J + 1, a % 512⟩ : S54).f0 8 = true := by unfold fitsB; rw [if_neg (by decide)]
   rw [e2]
   show (!false && !false && !decide ((K.length : Int) ≤ a % 512) && true) = _
   by_cases hh : a % 512 < (K.length : Int)
   ·
    rw [decide_eq_true hh, decide_eq_false (by omega)]; rfl
   ·
    rw [decide_eq_false hh, decide_eq_true (by omega)]; rfl
  rw [e, if_neg (by simp)]
  exact rules_j1 h hr k
 ·
  exact rules_j1 h hr k
end
theorem rules_f {l0 : List S56} {l1 : List S54} {l2 : List S67} {l3 l4 : List Bool} (g0 : ∀ x ∈ l0, good56 x) (g1 : ∀ x ∈ l1, good54 x) (g2 : ∀ x ∈ l2, good67 x) (a : Int) : longcaselaw06_BlockRules.f 2 l0 l1 l2 l3 l4 a = some true := by
 obtain ⟨K, J, L, S, U, hf, hs⟩ := small_few (l3 := l3) (l4 := l4) g0 g1 g2
 unfold longcaselaw06_BlockRules.f longcaselaw06_shown.f
 rw [Option.bind_some, hf, Option.bind_some]
 dsimp only
 rw [hs.right, Option.bind_some]
 by_cases hr : rightB 8 4 K J L S U = true
 ·
  rw [if_pos hr, hs.idem, Option.bind_some]
  dsimp only
  have hj := hs.j
  by_cases h0 : J.length = 0
  ·
   rw [if_neg (by omega)]
   have : lastAt J = 0 := by unfold lastAt; rw [if_pos h0]
   rw [← this]
   exact rules_j0 hs hr 0 a
  ·
   have e : wrap64 ((J.length : Int) - 1) = (J.length : Int) - 1 := Hand.w64 (by omega) (by omega)
   rw [e, if_pos (by omega), if_pos (by omega), if_pos (by omega), if_pos (by omega), right_more hs, Option.bind_some, right_snoc hr _ hj]
   have : lastAt J = (rd_T54 J ((J.length : Int) - 1)).f0 := by unfold lastAt; rw [if_neg h0]
   rw [← this, if_neg ?no]
   ·
    exact rules_j0 hs hr 0 a
   case no =>
    unfold jokB
    rw [rd54_end, rd54_pre J _ _ (by omega), ← this]
    simp [h0]
 ·
  rw [if_neg hr]
end Go.Proofs.Ythobnoknbdljgaa
namespace Go.Proofs.Ythobnoknbdljgaa.Hand
open Go.RowKit PB0 Go.Proofs.YthobnoknbdljgaaW.PrintWords
theorem rules_row (A0_0 : Option Addr) (c0_0 : Nat) (l0_0 : List S56) (A0_1 : Option Addr) (c0_1 : Nat) (l0_1 : List S54) (A0_2 : Option Addr) (c0_2 : Nat) (l0_2 : List S67) (A0_3 : Option Addr) (c0_3 : Nat) (l0_3 : List Bool) (A0_4 : Option Addr) (c0_4 : Nat) (l0_4 : List Bool) (a1 : Int) (w : World) (hr0_0 : Kd.C k56 w A0_0 l0_0.length l0_0) (hc0_0 : l0_0.length ≤ c0_0) (hr0_1 : Kd.C k54 w A0_1 l0_1.length l0_1) (hc0_1 : l0_1.length ≤ c0_1) (hr0_2 : Kd.C k67 w A0_2 l0_2.length l0_2) (hc0_2 : l0_2.length ≤ c0_2) (hr0_3 : Kd.C Kd.bool w A0_3 l0_3.length l0_3) (hc0_3 : l0_3.length ≤ c0_3) (hr0_4 : Kd.C Kd.bool w A0_4 l0_4.length l0_4) (hc0_4 : l0_4.length ≤ c0_4) (g0 : ∀ x ∈ l0_0, good56 x) (g1 : ∀ x ∈ l0_1, good54 x) (g2 : ∀ x ∈ l0_2, good67 x) (_ : (Lit.int .i64 a1).wf = true) :
  Calls Try.prog 7 #[.agg #[.slice A0_0 l0_0.length c0_0, .slice A0_1 l0_1.length c0_1, .slice A0_2 l0_2.length c0_2, .slice A0_3 l0_3.length c0_3, .slice A0_4 l0_4.length c0_4], .int .i64 a1] w fun e w' => e = .returned (.bool true) ∧ Below w.heap.size w w' :=
 PL4.longcaselaw06_BlockRules.calls 2 A0_0 c0_0 l0_0 A0_1 c0_1 l0_1 A0_2 c0_2 l0_2 A0_3 c0_3 l0_3 A0_4 c0_4 l0_4 a1 true w hr0_0 hc0_0 hr0_1 hc0_1 hr0_2 hc0_2 hr0_3 hc0_3 hr0_4 hc0_4 (rules_f g0 g1 g2 a1) rfl
end Go.Proofs.Ythobnoknbdljgaa.Hand
end
