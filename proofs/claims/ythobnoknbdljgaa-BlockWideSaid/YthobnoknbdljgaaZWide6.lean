/- What the claim needs of its texts, one behind the other (laid by a program of the session's). -/
import Derived.Test.YthobnoknbdljgaaZWide5
import Derived.Lib.SmallJoins
import Derived.Deep.Slices
import Derived.Deep.Strs
import Derived.Deep.Fields
import Derived.ChangeSame
section
namespace Go.Proofs.Ythobnoknbdljgaa.PL2
open Go.Proofs.Ythobnoknbdljgaa.PB0 Sq
open Go.RowKit Go.Proofs.Ythobnoknbdljgaa.Stub2 Go.Proofs.Ythobnoknbdljgaa.Stub Go.Proofs.Ythobnoknbdljgaa.Hand Go.Proofs.YthobnoknbdljgaaW.PrintWords Go.Proofs.YthobnoknbdljgaaW.PrintLast Go.Proofs.YthobnoknbdljgaaW.PrintMore
attribute [local go_sem] max2_int min2_int max_two min_two max_three min_three max_four min_four
set_option linter.unusedVariables false
set_option linter.unusedSimpArgs false
attribute [local go_sem high] eqA35
def longcaselaw06_BlockWide.f (l0_0 : List (S56)) (l0_1 : List (S54)) (l0_2 : List (S67)) (l0_3 : List Bool) (l0_4 : List Bool) (a1 : Int) : Option (Bool) := (longcaselaw06_shown.f).bind fun t102 => ((longcaselaw06_few.f l0_0 l0_1 l0_2 l0_3 l0_4).bind fun bt103 => ((block_Right.f bt103.1 bt103.2.1 bt103.2.2.1 bt103.2.2.2.1 bt103.2.2.2.2 4 (wrap64 (1 + (Go.bits .and .i64 a1 3)))).bind fun t118 => (if t118 = true then ((block_Encode.f bt103.1 bt103.2.1 bt103.2.2.1 bt103.2.2.2.1 bt103.2.2.2.2 4 (wrap64 (1 + (Go.bits .and .i64 a1 3)))).bind fun bt119 => ((block_Encode.f bt103.1 bt103.2.1 bt103.2.2.1 bt103.2.2.2.1 bt103.2.2.2.2 8 (wrap64 (1 + (Go.bits .and .i64 a1 3)))).bind fun bt131 => ((block_Decode.f bt119.1 bt119.2.1 bt119.2.2.1 bt119.2.2.2.1 bt119.2.2.2.2.1 bt119.2.2.2.2.2.1 bt119.2.2.2.2.2.2.1 bt119.2.2.2.2.2.2.2.1 4).bind fun bt143 => ((block_Decode.f bt131.1 bt131.2.1 bt131.2.2.1 bt131.2.2.2.1 bt131.2.2.2.2.1 bt131.2.2.2.2.2.1 bt131.2.2.2.2.2.2.1 bt131.2.2.2.2.2.2.2.1 8).bind fun bt160 => (if t102 = true then (if bt119.2.2.2.2.2.2.2.2 = 0 then (if bt131.2.2.2.2.2.2.2.2 = 0 then (if (bt119.2.1 == bt131.2.1 && (bt119.2.2.1 == bt131.2.2.1 && (bt119.2.2.2.1 == bt131.2.2.2.1 && (bt119.2.2.2.2.1 == bt131.2.2.2.2.1 && (bt119.2.2.2.2.2.1 == bt131.2.2.2.2.2.1 && (bt119.2.2.2.2.2.2.1 == bt131.2.2.2.2.2.2.1 && (bt119.2.2.2.2.2.2.2.1 == bt131.2.2.2.2.2.2.2.1))))))) = true then (if (bt131.1.length : Int) = (wrap64 ((wrap64 ((bt119.1.length : Int) + (wrap64 (4 * (bt103.2.1.length : Int))))) + (wrap64 (4 * (bt103.2.2.1.length : Int))))) then (if bt143.2.2.2.2.2 = 0 then (if bt160.2.2.2.2.2 = 0 then ((longcaselaw06_ref.f bt143.1 bt143.2.1 bt143.2.2.1 bt143.2.2.2.1 bt143.2.2.2.2.1).bind fun bt177 => ((longcaselaw06_ref.f bt160.1 bt160.2.1 bt160.2.2.1 bt160.2.2.2.1 bt160.2.2.2.2.1).bind fun bt192 => ((longcaseref06_Same.f bt177.1 bt177.2.1 bt177.2.2.1 bt177.2.2.2.1 bt177.2.2.2.2 bt192.1 bt192.2.1 bt192.2.2.1 bt192.2.2.2.1 bt192.2.2.2.2).bind fun t207 => (some t207)))) else (some false)) else (some false)) else (some false)) else (some false)) else (some false)) else (some false)) else (some false)))))) else (some t102))))
def longcaselaw06_BlockWide.T10 : Bool × List (List Nat × List Nat) := (true, [([], []), ([0], [0]), ([1], [1]), ([2, 1], [1, 2]), ([1, 3], [1, 3]), ([4, 1], [4]), ([5], [5]), ([6, 5], [5, 6]), ([5, 7], [5, 7]), ([8, 5], [8]), ([9], [9]), ([9], [9]), ([10, 11, 9], [9, 10, 11]), ([9, 12], [9, 12]), ([13, 9], [13]), ([14], [14]), ([15, 14], [14, 15]), ([14], [14]), ([17, 14], [14, 17]), ([14], [14]), ([19, 14], [14, 19]), ([20, 14], [14, 20]), ([21, 14], [14, 21]), ([18, 22, 14], [14, 18, 22]), ([14], [14]), ([24, 14], [14, 24]), ([25, 14], [14, 25]), ([26, 14], [14, 26]), ([23, 27, 14], [14, 23, 27]), ([16, 28, 14], [14, 16, 28]), ([14, 29], [14, 29]), ([30, 14], [30]), ([31], [31]), ([32, 31], [31, 32]), ([31, 33], [31, 33]), ([34, 31], [34]), ([35], [35]), ([36, 35], [35, 36]), ([35, 37], [35, 37]), ([38, 35], [38]), ([39], [39]), ([40, 39, 39], [39, 40]), ([39], [39]), ([42, 41, 39], [39, 42]), ([41, 43, 43, 39], [39, 41, 43]), ([39, 44], [39, 44]), ([45, 44, 0, 1, 2, 3, 4, 5, 6, 7, 8, 9, 10, 11, 12, 13, 14, 15, 16, 17, 18, 19, 20, 21, 22, 23, 24, 25, 26, 27, 28, 29, 30, 31, 32, 33, 34, 35, 36, 37, 38, 39, 40, 41, 42, 43, 44, 45], [45])])
def longcaselaw06_BlockWide.B10 : List Nat := [0, 1, 3, 7, 15, 31, 63, 127, 255, 511, 1023, 1023, 4095, 8191, 16383, 32767, 65535, 32767, 163839, 32767, 557055, 1605631, 3702783, 8290303, 32767, 16809983, 50364415, 117473279, 268337151, 536870911, 1073741823, 2147483647, 4294967295, 8589934591, 17179869183, 34359738367, 68719476735, 137438953471, 274877906943, 549755813887, 1099511627775, 2199023255551, 1099511627775, 8796093022207, 17592186044415, 35184372088831, 70368744177663]
theorem longcaselaw06_BlockWide.tab10 : rtab .any (opsOf Try.f6 10) = longcaselaw06_BlockWide.T10 := by kernel_rfl
theorem longcaselaw06_BlockWide.bits10 : waitsOk longcaselaw06_BlockWide.T10.2 longcaselaw06_BlockWide.B10 = true := by kernel_rfl
set_option maxHeartbeats 8000000 in
set_option maxRecDepth 100000 in
theorem longcaselaw06_BlockWide.calls (A0_0 : Option Addr) (c0_0 : Nat) (l0_0 : List (S56)) (A0_1 : Option Addr) (c0_1 : Nat) (l0_1 : List (S54)) (A0_2 : Option Addr) (c0_2 : Nat) (l0_2 : List (S67)) (A0_3 : Option Addr) (c0_3 : Nat) (l0_3 : List Bool) (A0_4 : Option Addr) (c0_4 : Nat) (l0_4 : List Bool) (a1 : Int) (r : Bool) (w : World) (hr0_0 : Kd.C k56 w A0_0 l0_0.length l0_0) (hc0_0 : l0_0.length ≤ c0_0) (hr0_1 : Kd.C k54 w A0_1 l0_1.length l0_1) (hc0_1 : l0_1.length ≤ c0_1) (hr0_2 : Kd.C k67 w A0_2 l0_2.length l0_2) (hc0_2 : l0_2.length ≤ c0_2) (hr0_3 : Kd.C Kd.bool w A0_3 l0_3.length l0_3) (hc0_3 : l0_3.length ≤ c0_3) (hr0_4 : Kd.C Kd.bool w A0_4 l0_4.length l0_4) (hc0_4 : l0_4.length ≤ c0_4) (h : longcaselaw06_BlockWide.f l0_0 l0_1 l0_2 l0_3 l0_4 a1 = some r) (hRT : r = true) :
  Calls Try.prog 6 #[.agg #[.slice A0_0 l0_0.length c0_0, .slice A0_1 l0_1.length c0_1, .slice A0_2 l0_2.length c0_2, .slice A0_3 l0_3.length c0_3, .slice A0_4 l0_4.length c0_4], .int .i64 a1] w fun e w' => e = .returned (.bool r) ∧ Below w.heap.size w w' := by
 have HRT := Aside0.mk hRT
 clear hRT
 have hu27 := Try.underlying27
 have hu35 := Try.underlying35
 have HR0_0 := Aside0.mk hr0_0
 have HC0_0 := Aside0.mk hc0_0
 clear hr0_0 hc0_0
 have HR0_1 := Aside0.mk hr0_1
 have HC0_1 := Aside0.mk hc0_1
 clear hr0_1 hc0_1
 have HR0_2 := Aside0.mk hr0_2
 have HC0_2 := Aside0.mk hc0_2
 clear hr0_2 hc0_2
 have HR0_3 := Aside0.mk hr0_3
 have HC0_3 := Aside0.mk hc0_3
 clear hr0_3 hc0_3
 have HR0_4 := Aside0.mk hr0_4
 have HC0_4 := Aside0.mk hc0_4
 clear hr0_4 hc0_4
 have HB := Aside0.mk (Below.refl w.heap.size w)
 have H : ((longcaselaw06_shown.f).bind fun t102 => ((longcaselaw06_few.f l0_0 l0_1 l0_2 l0_3 l0_4).bind fun bt103 => ((block_Right.f bt103.1 bt103.2.1 bt103.2.2.1 bt103.2.2.2.1 bt103.2.2.2.2 4 (wrap64 (1 + (Go.bits .and .i64 a1 3)))).bind fun t118 => (if t118 = true then ((block_Encode.f bt103.1 bt103.2.1 bt103.2.2.1 bt103.2.2.2.1 bt103.2.2.2.2 4 (wrap64 (1 + (Go.bits .and .i64 a1 3)))).bind fun bt119 => ((block_Encode.f bt103.1 bt103.2.1 bt103.2.2.1 bt103.2.2.2.1 bt103.2.2.2.2 8 (wrap64 (1 + (Go.bits .and .i64 a1 3)))).bind fun bt131 => ((block_Decode.f bt119.1 bt119.2.1 bt119.2.2.1 bt119.2.2.2.1 bt119.2.2.2.2.1 bt119.2.2.2.2.2.1 bt119.2.2.2.2.2.2.1 bt119.2.2.2.2.2.2.2.1 4).bind fun bt143 => ((block_Decode.f bt131.1 bt131.2.1 bt131.2.2.1 bt131.2.2.2.1 bt131.2.2.2.2.1 bt131.2.2.2.2.2.1 bt131.2.2.2.2.2.2.1 bt131.2.2.2.2.2.2.2.1 8).bind fun bt160 => (if t102 = true then (if bt119.2.2.2.2.2.2.2.2 = 0 then (if bt131.2.2.2.2.2.2.2.2 = 0 then (if (bt119.2.1 == bt131.2.1 && (bt119.2.2.1 == bt131.2.2.1 && (bt119.2.2.2.1 == bt131.2.2.2.1 && (bt119.2.2.2.2.1 == bt131.2.2.2.2.1 && (bt119.2.2.2.2.2.1 == bt131.2.2.2.2.2.1 && (bt119.2.2.2.2.2.2.1 == bt131.2.2.2.2.2.2.1 && (bt119.2.2.2.2.2.2.2.1 == bt131.2.2.2.2.2.2.2.1))))))) = true then (if (bt131.1.length : Int) = (wrap64 ((wrap64 ((bt119.1.length : Int) + (wrap64 (4 * (bt103.2.1.length : Int))))) + (wrap64 (4 * (bt103.2.2.1.length : Int))))) then (if bt143.2.2.2.2.2 = 0 then (if bt160.2.2.2.2.2 = 0 then ((longcaselaw06_ref.f bt143.1 bt143.2.1 bt143.2.2.1 bt143.2.2.2.1 bt143.2.2.2.2.1).bind fun bt177 => ((longcaselaw06_ref.f bt160.1 bt160.2.1 bt160.2.2.1 bt160.2.2.2.1 bt160.2.2.2.2.1).bind fun bt192 => ((longcaseref06_Same.f bt177.1 bt177.2.1 bt177.2.2.1 bt177.2.2.2.1 bt177.2.2.2.2 bt192.1 bt192.2.1 bt192.2.2.1 bt192.2.2.2.1 bt192.2.2.2.2).bind fun t207 => (some t207)))) else (some false)) else (some false)) else (some false)) else (some false)) else (some false)) else (some false)) else (some false)))))) else (some t102))))) = some r := h
 clear h
 replace H := Option.bind_eq_some_iff.mp H
 obtain ⟨t102, A30, H⟩ := H
 try dsimp only at H
 have A3 := Aside0.mk A30
 clear A30
 replace H := Option.bind_eq_some_iff.mp H
 obtain ⟨⟨t103, t106, t109, t112, t115⟩, A40, H⟩ := H
 try dsimp only at H
 have A4 := Aside0.mk A40
 clear A40
 replace H := Option.bind_eq_some_iff.mp H
 obtain ⟨t118, A50, H⟩ := H
 try dsimp only at H
 have A5 := Aside0.mk A50
 clear A50
 by_cases c6 : t118 = true
 ·
  subst c6
  have H1 : ((block_Encode.f t103 t106 t109 t112 t115 4 (wrap64 (1 + (Go.bits .and .i64 a1 3)))).bind fun bt119 => ((block_Encode.f t103 t106 t109 t112 t115 8 (wrap64 (1 + (Go.bits .and .i64 a1 3)))).bind fun bt131 => ((block_Decode.f bt119.1 bt119.2.1 bt119.2.2.1 bt119.2.2.2.1 bt119.2.2.2.2.1 bt119.2.2.2.2.2.1 bt119.2.2.2.2.2.2.1 bt119.2.2.2.2.2.2.2.1 4).bind fun bt143 => ((block_Decode.f bt131.1 bt131.2.1 bt131.2.2.1 bt131.2.2.2.1 bt131.2.2.2.2.1 bt131.2.2.2.2.2.1 bt131.2.2.2.2.2.2.1 bt131.2.2.2.2.2.2.2.1 8).bind fun bt160 => (if t102 = true then (if bt119.2.2.2.2.2.2.2.2 = 0 then (if bt131.2.2.2.2.2.2.2.2 = 0 then (if (bt119.2.1 == bt131.2.1 && (bt119.2.2.1 == bt131.2.2.1 && (bt119.2.2.2.1 == bt131.2.2.2.1 && (bt119.2.2.2.2.1 == bt131.2.2.2.2.1 && (bt119.2.2.2.2.2.1 == bt131.2.2.2.2.2.1 && (bt119.2.2.2.2.2.2.1 == bt131.2.2.2.2.2.2.1 && (bt119.2.2.2.2.2.2.2.1 == bt131.2.2.2.2.2.2.2.1))))))) = true then (if (bt131.1.length : Int) = (wrap64 ((wrap64 ((bt119.1.length : Int) + (wrap64 (4 * (t106.length : Int))))) + (wrap64 (4 * (t109.length : Int))))) then (if bt143.2.2.2.2.2 = 0 then (if bt160.2.2.2.2.2 = 0 then ((longcaselaw06_ref.f bt143.1 bt143.2.1 bt143.2.2.1 bt143.2.2.2.1 bt143.2.2.2.2.1).bind fun bt177 => ((longcaselaw06_ref.f bt160.1 bt160.2.1 bt160.2.2.1 bt160.2.2.2.1 bt160.2.2.2.2.1).bind fun bt192 => ((longcaseref06_Same.f bt177.1 bt177.2.1 bt177.2.2.1 bt177.2.2.2.1 bt177.2.2.2.2 bt192.1 bt192.2.1 bt192.2.2.1 bt192.2.2.2.1 bt192.2.2.2.2).bind fun t207 => (some t207)))) else (some false)) else (some false)) else (some false)) else (some false)) else (some false)) else (some false)) else (some false)))))) = some r := by rw [if_pos rfl] at H; exact H
  clear H
  have H := H1
  clear H1
  replace H := Option.bind_eq_some_iff.mp H
  obtain ⟨⟨t119, t122, t123, t124, t125, t126, t127, t128, t129⟩, A70, H⟩ := H
  try dsimp only at H
  have A7 := Aside0.mk A70
  clear A70
  replace H := Option.bind_eq_some_iff.mp H
  obtain ⟨⟨t131, t134, t135, t136, t137, t138, t139, t140, t141⟩, A80, H⟩ := H
  try dsimp only at H
  have A8 := Aside0.mk A80
  clear A80
  replace H := Option.bind_eq_some_iff.mp H
  obtain ⟨⟨t143, t146, t149, t152, t155, t158⟩, A90, H⟩ := H
  try dsimp only at H
  have A9 := Aside0.mk A90
  clear A90
  replace H := Option.bind_eq_some_iff.mp H
  obtain ⟨⟨t160, t163, t166, t169, t172, t175⟩, A100, H⟩ := H
  try dsimp only at H
  have A10 := Aside0.mk A100
  clear A100
  by_cases c11 : t102 = true
  ·
   subst c11
   have H1 : (if t129 = 0 then (if t141 = 0 then (if (t122 == t134 && (t123 == t135 && (t124 == t136 && (t125 == t137 && (t126 == t138 && (t127 == t139 && (t128 == t140))))))) = true then (if (t131.length : Int) = (wrap64 ((wrap64 ((t119.length : Int) + (wrap64 (4 * (t106.length : Int))))) + (wrap64 (4 * (t109.length : Int))))) then (if t158 = 0 then (if t175 = 0 then ((longcaselaw06_ref.f t143 t146 t149 t152 t155).bind fun bt177 => ((longcaselaw06_ref.f t160 t163 t166 t169 t172).bind fun bt192 => ((longcaseref06_Same.f bt177.1 bt177.2.1 bt177.2.2.1 bt177.2.2.2.1 bt177.2.2.2.2 bt192.1 bt192.2.1 bt192.2.2.1 bt192.2.2.2.1 bt192.2.2.2.2).bind fun t207 => (some t207)))) else (some false)) else (some false)) else (some false)) else (some false)) else (some false)) else (some false)) = some r := by rw [if_pos rfl] at H; exact H
   clear H
   have H := H1
   clear H1
   by_cases c12 : t129 = 0
   ·
    rw [if_pos c12] at H
    have c12b0 : (t129 == 0) = true := beq_iff_eq.mpr c12
    have c12b1 : (t129 != 0) = false := bne_eq_false_iff_eq.mpr c12
    clear c12
    by_cases c13 : t141 = 0
    ·
     rw [if_pos c13] at H
     have c13b0 : (t141 == 0) = true := beq_iff_eq.mpr c13
     have c13b1 : (t141 != 0) = false := bne_eq_false_iff_eq.mpr c13
     clear c13
     by_cases c14 : (t122 == t134 && (t123 == t135 && (t124 == t136 && (t125 == t137 && (t126 == t138 && (t127 == t139 && (t128 == t140))))))) = true
     ·
      rw [if_pos c14] at H
      have c14b0 : (t122 == t134 && (t123 == t135 && (t124 == t136 && (t125 == t137 && (t126 == t138 && (t127 == t139 && (t128 == t140))))))) = true := c14
      (try (have c14b1 : decide (t122 = t134 && (t123 == t135 && (t124 == t136 && (t125 == t137 && (t126 == t138 && (t127 == t139 && (t128 == t140))))))) = true := by simpa using c14))
      (try (have c14b2 : (t122 == t134 && (t123 == t135 && (t124 == t136 && (t125 == t137 && (t126 == t138 && (t127 == t139 && (t128 == t140))))))) = true := by simpa using c14))
      clear c14
      by_cases c15 : (t131.length : Int) = (wrap64 ((wrap64 ((t119.length : Int) + (wrap64 (4 * (t106.length : Int))))) + (wrap64 (4 * (t109.length : Int)))))
      ·
       rw [if_pos c15] at H
       have c15b0 : ((t131.length : Int) == (wrap64 ((wrap64 ((t119.length : Int) + (wrap64 (4 * (t106.length : Int))))) + (wrap64 (4 * (t109.length : Int)))))) = true := beq_iff_eq.mpr c15
       have c15b1 : ((t131.length : Int) != (wrap64 ((wrap64 ((t119.length : Int) + (wrap64 (4 * (t106.length : Int))))) + (wrap64 (4 * (t109.length : Int)))))) = false := bne_eq_false_iff_eq.mpr c15
       clear c15
       by_cases c16 : t158 = 0
       ·
        rw [if_pos c16] at H
        have c16b0 : (t158 == 0) = true := beq_iff_eq.mpr c16
        have c16b1 : (t158 != 0) = false := bne_eq_false_iff_eq.mpr c16
        clear c16
        by_cases c17 : t175 = 0
        ·
         rw [if_pos c17] at H
         have c17b0 : (t175 == 0) = true := beq_iff_eq.mpr c17
         have c17b1 : (t175 != 0) = false := bne_eq_false_iff_eq.mpr c17
         clear c17
         replace H := Option.bind_eq_some_iff.mp H
         obtain ⟨⟨t177, t180, t183, t186, t189⟩, A180, H⟩ := H
         replace H : ((longcaselaw06_ref.f t160 t163 t166 t169 t172).bind fun bt192 => ((longcaseref06_Same.f t177 t180 t183 t186 t189 bt192.1 bt192.2.1 bt192.2.2.1 bt192.2.2.2.1 bt192.2.2.2.2).bind fun t207 => (some t207))) = some r := H
         have A18 := Aside0.mk A180
         clear A180
         replace H := Option.bind_eq_some_iff.mp H
         obtain ⟨⟨t192, t195, t198, t201, t204⟩, A190, H⟩ := H
         replace H : ((longcaseref06_Same.f t177 t180 t183 t186 t189 t192 t195 t198 t201 t204).bind fun t207 => (some t207)) = some r := H
         have A19 := Aside0.mk A190
         clear A190
         replace H := Option.bind_eq_some_iff.mp H
         obtain ⟨t207, A200, H⟩ := H
         replace H : (some t207) = some r := H
         have A20 := Aside0.mk A200
         clear A200
         obtain rfl := Option.some.inj H
         go_enter Try.func6, Try.ntmps6
         try go_wp2_with (first | ((with_reducible refine gate_dst (N := 2) rfl ?_); (try (refine gate_guard (by rfl) ?_; dsimp only)); refine box_event ?hg (N := 2) ?hd (cs := #[.slice A0_0 l0_0.length c0_0, .slice A0_1 l0_1.length c0_1, .slice A0_2 l0_2.length c0_2, .slice A0_3 l0_3.length c0_3, .slice A0_4 l0_4.length c0_4]) (t := 27) ?hr ?_; (case hd => rfl); (case hg => rfl); (case hr => first | (go_simp; done) | (go_simp; rfl)); intro gb101 hg w21 hbox hb; have n0_ := Aside0.mk (below_step (by repeat (first | (with_reducible first | exact HB.out | apply below_alloc | apply pw_below_drewN | apply below_drew1) | exact HB.out)) hb); have n1_ := Aside0.mk (hbox); have n2_ := Aside0.mk ((by rw [hg]; exact (below_size (by repeat (first | (with_reducible first | exact HB.out | apply below_alloc | apply pw_below_drewN | apply below_drew1) | exact HB.out))) : w.heap.size ≤ gb101)); have n3_ := Aside0.mk ((by rw [hg]; exact (below_size (by repeat (first | (with_reducible first | exact HB.out | apply below_alloc | apply pw_below_drewN | apply below_drew1) | exact HB.out))) : w.heap.size ≤ gb101)); clear HB; have HB := n0_; have BK101 := n1_; have GW101 := n2_; have GE101 := n3_; clear n0_ n1_ n2_ n3_; clear hb hbox hg) | ((with_reducible refine gate_callee (f := 11) rfl ?_); refine goesL_ (some 16) rfl rfl Try.func11 (by kernel_rfl) rfl #[] rfl (by (try simp only [List.map_toArray, List.map_cons, List.map_nil]); first | done | rfl | (simp only [List.length_drop, List.length_take]; rfl)) ?_; (with_reducible refine (longcaselaw06_shown.calls  true _ A3.out).mono ?_); rintro e w22 ⟨rfl, hb⟩; refine ⟨_, rfl, ?_⟩; have n0_ := kbb BK101 hb; have n1_ := Aside0.mk (below_step (by repeat (first | (with_reducible first | exact HB.out | apply below_alloc | apply pw_below_drewN | apply below_drew1 | refine below_set ?_ GE101.out) | exact HB.out)) hb); clear BK101; clear HB; have BK101 := n0_; have HB := n1_; clear n0_ n1_; (try clear hb); (try clear hb2); (try clear hk); (try clear hi); have hcz23_0 := kc BK101 0 rfl; have hcz23_1 := kc BK101 1 rfl; have hcz23_2 := kc BK101 2 rfl; have hcz23_3 := kc BK101 3 rfl; have hcz23_4 := kc BK101 4 rfl; have hfz23_0 := blk_frozen BK101.out 0; have hfz23_1 := blk_frozen BK101.out 1; have hfz23_2 := blk_frozen BK101.out 2; have hfz23_3 := blk_frozen BK101.out 3; have hfz23_4 := blk_frozen BK101.out 4) | ((with_reducible refine gate_callee (f := 12) rfl ?_); refine goesL_ (some 18) rfl rfl Try.func12 (by kernel_rfl) rfl #[.agg #[.slice A0_0 l0_0.length c0_0, .slice A0_1 l0_1.length c0_1, .slice A0_2 l0_2.length c0_2, .slice A0_3 l0_3.length c0_3, .slice A0_4 l0_4.length c0_4]] rfl (by (try simp only [List.map_toArray, List.map_cons, List.map_nil]); first | done | rfl | (simp only [List.length_drop, List.length_take]; rfl)) ?_; (with_reducible refine (longcaselaw06_few.calls _ _ l0_0 _ _ l0_1 _ _ l0_2 _ _ l0_3 _ _ l0_4 t103 t106 t109 t112 t115 _ ?side1 ?side2 ?side3 ?side4 ?side5 ?side6 ?side7 ?side8 ?side9 ?side10 A4.out).mono ?_); (case side1 => repeat (first | exact (Kd.C_below HR0_0.out HB.out) | (with_reducible refine Kd.C_alloc ?_ _) | (with_reducible refine Kd.C_drewN ?_ _) | (with_reducible refine Kd.C_drew ?_))); (case side2 => exact HC0_0.out); (case side3 => repeat (first | exact (Kd.C_below HR0_1.out HB.out) | (with_reducible refine Kd.C_alloc ?_ _) | (with_reducible refine Kd.C_drewN ?_ _) | (with_reducible refine Kd.C_drew ?_))); (case side4 => exact HC0_1.out); (case side5 => repeat (first | exact (Kd.C_below HR0_2.out HB.out) | (with_reducible refine Kd.C_alloc ?_ _) | (with_reducible refine Kd.C_drewN ?_ _) | (with_reducible refine Kd.C_drew ?_))); (case side6 => exact HC0_2.out); (case side7 => repeat (first | exact (Kd.C_below HR0_3.out HB.out) | (with_reducible refine Kd.C_alloc ?_ _) | (with_reducible refine Kd.C_drewN ?_ _) | (with_reducible refine Kd.C_drew ?_))); (case side8 => exact HC0_3.out); (case side9 => repeat (first | exact (Kd.C_below HR0_4.out HB.out) | (with_reducible refine Kd.C_alloc ?_ _) | (with_reducible refine Kd.C_drewN ?_ _) | (with_reducible refine Kd.C_drew ?_))); (case side10 => exact HC0_4.out); rintro e w24 ⟨v104, v107, v110, v113, v116, rfl, ho0, ho1, ho2, ho3, ho4, hb⟩; refine ⟨_, rfl, ?_⟩; have n0_ := Aside0.mk (Kd.R_lower ho0 (below_size (by repeat (first | (with_reducible first | exact HB.out | apply below_alloc | apply pw_below_drewN | apply below_drew1 | refine below_set ?_ GE101.out) | exact HB.out)))); have n1_ := Aside0.mk (Kd.R_lower ho1 (below_size (by repeat (first | (with_reducible first | exact HB.out | apply below_alloc | apply pw_below_drewN | apply below_drew1 | refine below_set ?_ GE101.out) | exact HB.out)))); have n2_ := Aside0.mk (Kd.R_lower ho2 (below_size (by repeat (first | (with_reducible first | exact HB.out | apply below_alloc | apply pw_below_drewN | apply below_drew1 | refine below_set ?_ GE101.out) | exact HB.out)))); have n3_ := Aside0.mk (Kd.R_lower ho3 (below_size (by repeat (first | (with_reducible first | exact HB.out | apply below_alloc | apply pw_below_drewN | apply below_drew1 | refine below_set ?_ GE101.out) | exact HB.out)))); have n4_ := Aside0.mk (Kd.R_lower ho4 (below_size (by repeat (first | (with_reducible first | exact HB.out | apply below_alloc | apply pw_below_drewN | apply below_drew1 | refine below_set ?_ GE101.out) | exact HB.out)))); have n5_ := kbb BK101 hb; have n6_ := Aside0.mk (below_step (by repeat (first | (with_reducible first | exact HB.out | apply below_alloc | apply pw_below_drewN | apply below_drew1 | refine below_set ?_ GE101.out) | exact HB.out)) hb); clear BK101; clear HB; have HO105 := n0_; have HO108 := n1_; have HO111 := n2_; have HO114 := n3_; have HO117 := n4_; have BK101 := n5_; have HB := n6_; clear n0_ n1_ n2_ n3_ n4_ n5_ n6_; (try clear hb); (try clear hb2); (try clear hk); (try clear hi); (try clear ho0); (try clear ho1); (try clear ho2); (try clear ho3); (try clear ho4); obtain ⟨Ao25, co25, eo25⟩ := Kd.R_slice HO105.out; subst eo25; have hcz26_0 := kc BK101 0 rfl; have hcz26_1 := kc BK101 1 rfl; have hcz26_2 := kc BK101 2 rfl; have hcz26_3 := kc BK101 3 rfl; have hcz26_4 := kc BK101 4 rfl; have hfz26_0 := blk_frozen BK101.out 0; have hfz26_1 := blk_frozen BK101.out 1; have hfz26_2 := blk_frozen BK101.out 2; have hfz26_3 := blk_frozen BK101.out 3; have hfz26_4 := blk_frozen BK101.out 4; obtain ⟨Ao27, co27, eo27⟩ := Kd.R_slice HO108.out; subst eo27; obtain ⟨Ao28, co28, eo28⟩ := Kd.R_slice HO111.out; subst eo28; obtain ⟨Ao29, co29, eo29⟩ := Kd.R_slice HO114.out; subst eo29; obtain ⟨Ao30, co30, eo30⟩ := Kd.R_slice HO117.out; subst eo30) | ((with_reducible refine gate_callee (f := 16) rfl ?_); refine goesL_ (some 24) rfl rfl Try.func16 (by kernel_rfl) rfl #[.agg #[.slice Ao25 t103.length co25, .slice Ao27 t106.length co27, .slice Ao28 t109.length co28, .slice Ao29 t112.length co29, .slice Ao30 t115.length co30], .int .i64 4, .int .i64 (wrap64 (1 + (Go.bits .and .i64 a1 3)))] rfl (by (try simp only [List.map_toArray, List.map_cons, List.map_nil]); first | done | rfl | (simp only [List.length_drop, List.length_take]; rfl)) ?_; (with_reducible refine (block_Right.calls _ _ t103 _ _ t106 _ _ t109 _ _ t112 _ _ t115 4 (wrap64 (1 + (Go.bits .and .i64 a1 3))) true _ ?side1 ?side2 ?side3 ?side4 ?side5 ?side6 ?side7 ?side8 ?side9 ?side10 A5.out).mono ?_); (case side1 => refine (Kd.R_reads' (e := 56) (base := w.heap.size) (ok := fun k_ => True) (n := t103.length) (c := co25) ?_).2.2; exact (by (with_reducible repeat (first | apply Kd.R_alloc | apply Kd.R_drewN | apply Kd.R_drew)); exact (rp5 HO105 BK101))); (case side2 => exact (Kd.R_reads' HO105.out).2.1); (case side3 => refine (Kd.R_reads' (e := 54) (base := w.heap.size) (ok := fun k_ => True) (n := t106.length) (c := co27) ?_).2.2; exact (by (with_reducible repeat (first | apply Kd.R_alloc | apply Kd.R_drewN | apply Kd.R_drew)); exact (rp5 HO108 BK101))); (case side4 => exact (Kd.R_reads' HO108.out).2.1); (case side5 => refine (Kd.R_reads' (e := 67) (base := w.heap.size) (ok := fun k_ => True) (n := t109.length) (c := co28) ?_).2.2; exact (by (with_reducible repeat (first | apply Kd.R_alloc | apply Kd.R_drewN | apply Kd.R_drew)); exact (rp5 HO111 BK101))); (case side6 => exact (Kd.R_reads' HO111.out).2.1); (case side7 => refine (Kd.R_reads' (e := 4) (base := w.heap.size) (ok := fun k_ => some k_ ≠ (.slice Ao30 t115.length co30 : Value).ownBlock) (n := t112.length) (c := co29) ?_).2.2; exact (by (with_reducible repeat (first | apply Kd.R_alloc | apply Kd.R_drewN | apply Kd.R_drew)); exact (rp5 HO114 BK101))); (case side8 => exact (Kd.R_reads' HO114.out).2.1); (case side9 => refine (Kd.R_reads' (e := 4) (base := w.heap.size) (ok := fun k_ => some k_ ≠ (.slice Ao29 t112.length co29 : Value).ownBlock) (n := t115.length) (c := co30) ?_).2.2; exact (by (with_reducible repeat (first | apply Kd.R_alloc | apply Kd.R_drewN | apply Kd.R_drew)); exact (rp5 HO117 BK101))); (case side10 => exact (Kd.R_reads' HO117.out).2.1); rintro e w31 ⟨rfl, hb⟩; refine ⟨_, rfl, ?_⟩; have n0_ := Aside0.mk (Kd.R_below (by (with_reducible repeat (first | apply Kd.R_alloc | apply Kd.R_drewN | apply Kd.R_drew)); exact (rp5 HO105 BK101)) hb); have n1_ := Aside0.mk (Kd.R_below (by (with_reducible repeat (first | apply Kd.R_alloc | apply Kd.R_drewN | apply Kd.R_drew)); exact (rp5 HO108 BK101)) hb); have n2_ := Aside0.mk (Kd.R_below (by (with_reducible repeat (first | apply Kd.R_alloc | apply Kd.R_drewN | apply Kd.R_drew)); exact (rp5 HO111 BK101)) hb); have n3_ := Aside0.mk (Kd.R_below (by (with_reducible repeat (first | apply Kd.R_alloc | apply Kd.R_drewN | apply Kd.R_drew)); exact (rp5 HO114 BK101)) hb); have n4_ := Aside0.mk (Kd.R_below (by (with_reducible repeat (first | apply Kd.R_alloc | apply Kd.R_drewN | apply Kd.R_drew)); exact (rp5 HO117 BK101)) hb); have n5_ := Aside0.mk (blk_below (g := gb101) (o := .cells #[.slice Ao25 t103.length co25, .slice Ao27 t106.length co27, .slice Ao28 t109.length co28, .slice Ao29 t112.length co29, .slice Ao30 t115.length co30] 27 (0, 0)) (by (with_reducible repeat (first | refine blk_drewN ?_ _ | refine blk_drew ?_ | refine blk_alloc ?_ _)); refine blk_put (cs := #[.slice Ao25 t103.length co25, .slice Ao27 t106.length co27, .slice Ao28 t109.length co28, .slice Ao29 t112.length co29, .slice A0_4 l0_4.length c0_4]) ?_ 4 _ rfl; (with_reducible repeat (first | refine blk_drewN ?_ _ | refine blk_drew ?_ | refine blk_alloc ?_ _)); refine blk_put (cs := #[.slice Ao25 t103.length co25, .slice Ao27 t106.length co27, .slice Ao28 t109.length co28, .slice A0_3 l0_3.length c0_3, .slice A0_4 l0_4.length c0_4]) ?_ 3 _ rfl; (with_reducible repeat (first | refine blk_drewN ?_ _ | refine blk_drew ?_ | refine blk_alloc ?_ _)); refine blk_put (cs := #[.slice Ao25 t103.length co25, .slice Ao27 t106.length co27, .slice A0_2 l0_2.length c0_2, .slice A0_3 l0_3.length c0_3, .slice A0_4 l0_4.length c0_4]) ?_ 2 _ rfl; (with_reducible repeat (first | refine blk_drewN ?_ _ | refine blk_drew ?_ | refine blk_alloc ?_ _)); refine blk_put (cs := #[.slice Ao25 t103.length co25, .slice A0_1 l0_1.length c0_1, .slice A0_2 l0_2.length c0_2, .slice A0_3 l0_3.length c0_3, .slice A0_4 l0_4.length c0_4]) ?_ 1 _ rfl; (with_reducible repeat (first | refine blk_drewN ?_ _ | refine blk_drew ?_ | refine blk_alloc ?_ _)); refine blk_put (cs := #[.slice A0_0 l0_0.length c0_0, .slice A0_1 l0_1.length c0_1, .slice A0_2 l0_2.length c0_2, .slice A0_3 l0_3.length c0_3, .slice A0_4 l0_4.length c0_4]) ?_ 0 _ rfl; (with_reducible repeat (first | refine blk_drewN ?_ _ | refine blk_drew ?_ | refine blk_alloc ?_ _)); exact BK101.out) hb); have n6_ := Aside0.mk (below_step (by repeat (first | (with_reducible first | exact HB.out | apply below_alloc | apply pw_below_drewN | apply below_drew1 | refine below_set ?_ GE101.out) | exact HB.out)) hb); clear HO105; clear HO108; clear HO111; clear HO114; clear HO117; clear BK101; clear HB; have HO105 := n0_; have HO108 := n1_; have HO111 := n2_; have HO114 := n3_; have HO117 := n4_; have BK101 := n5_; have HB := n6_; clear n0_ n1_ n2_ n3_ n4_ n5_ n6_; (try clear hb); (try clear hb2); (try clear hk); (try clear hi); have hcz32_0 := kc BK101 0 rfl; have hcz32_1 := kc BK101 1 rfl; have hcz32_2 := kc BK101 2 rfl; have hcz32_3 := kc BK101 3 rfl; have hcz32_4 := kc BK101 4 rfl; have hfz32_0 := blk_frozen BK101.out 0; have hfz32_1 := blk_frozen BK101.out 1; have hfz32_2 := blk_frozen BK101.out 2; have hfz32_3 := blk_frozen BK101.out 3; have hfz32_4 := blk_frozen BK101.out 4) | ((with_reducible refine gate_callee (f := 15) rfl ?_); refine goesL_ (some 30) rfl rfl Try.func15 (by kernel_rfl) rfl #[.agg #[.slice Ao25 t103.length co25, .slice Ao27 t106.length co27, .slice Ao28 t109.length co28, .slice Ao29 t112.length co29, .slice Ao30 t115.length co30], .int .i64 4, .int .i64 (wrap64 (1 + (Go.bits .and .i64 a1 3)))] rfl (by (try simp only [List.map_toArray, List.map_cons, List.map_nil]); first | done | rfl | (simp only [List.length_drop, List.length_take]; rfl)) ?_; (with_reducible refine (block_Encode.calls _ _ t103 _ _ t106 _ _ t109 _ _ t112 _ _ t115 4 (wrap64 (1 + (Go.bits .and .i64 a1 3))) t119 t122 t123 t124 t125 t126 t127 t128 t129 _ ?side1 ?side2 ?side3 ?side4 ?side5 ?side6 ?side7 ?side8 ?side9 ?side10 A7.out).mono ?_); (case side1 => repeat (first | exact (Kd.R_reads' HO105.out).2.2 | (with_reducible refine Kd.C_alloc ?_ _) | (with_reducible refine Kd.C_drewN ?_ _) | (with_reducible refine Kd.C_drew ?_))); (case side2 => exact (Kd.R_reads' HO105.out).2.1); (case side3 => repeat (first | exact (Kd.R_reads' HO108.out).2.2 | (with_reducible refine Kd.C_alloc ?_ _) | (with_reducible refine Kd.C_drewN ?_ _) | (with_reducible refine Kd.C_drew ?_))); (case side4 => exact (Kd.R_reads' HO108.out).2.1); (case side5 => repeat (first | exact (Kd.R_reads' HO111.out).2.2 | (with_reducible refine Kd.C_alloc ?_ _) | (with_reducible refine Kd.C_drewN ?_ _) | (with_reducible refine Kd.C_drew ?_))); (case side6 => exact (Kd.R_reads' HO111.out).2.1); (case side7 => repeat (first | exact (Kd.R_reads' HO114.out).2.2 | (with_reducible refine Kd.C_alloc ?_ _) | (with_reducible refine Kd.C_drewN ?_ _) | (with_reducible refine Kd.C_drew ?_))); (case side8 => exact (Kd.R_reads' HO114.out).2.1); (case side9 => repeat (first | exact (Kd.R_reads' HO117.out).2.2 | (with_reducible refine Kd.C_alloc ?_ _) | (with_reducible refine Kd.C_drewN ?_ _) | (with_reducible refine Kd.C_drew ?_))); (case side10 => exact (Kd.R_reads' HO117.out).2.1); rintro e w33 ⟨v120, rfl, ho0, hb⟩; refine ⟨_, rfl, ?_⟩; have n0_ := krb HO105 hb; have n1_ := krb HO108 hb; have n2_ := krb HO111 hb; have n3_ := krb HO114 hb; have n4_ := krb HO117 hb; have n5_ := Aside0.mk (Kd.R_lower ho0 (below_size (by repeat (first | (with_reducible first | exact HB.out | apply below_alloc | apply pw_below_drewN | apply below_drew1 | refine below_set ?_ GE101.out) | exact HB.out)))); have n6_ := kbb BK101 hb; have n7_ := Aside0.mk (below_step (by repeat (first | (with_reducible first | exact HB.out | apply below_alloc | apply pw_below_drewN | apply below_drew1 | refine below_set ?_ GE101.out) | exact HB.out)) hb); clear HO105; clear HO108; clear HO111; clear HO114; clear HO117; clear BK101; clear HB; have HO105 := n0_; have HO108 := n1_; have HO111 := n2_; have HO114 := n3_; have HO117 := n4_; have HO121 := n5_; have BK101 := n6_; have HB := n7_; clear n0_ n1_ n2_ n3_ n4_ n5_ n6_ n7_; (try clear hb); (try clear hb2); (try clear hk); (try clear hi); (try clear ho0)) | ((with_reducible refine gate_dst (N := 7) rfl ?_); (try (refine gate_guard (by rfl) ?_; dsimp only)); refine box_event ?hg (N := 7) ?hd (cs := #[.int .i64 0, .int .i64 0, .int .i64 0, .int .i64 0, .int .i64 0, .int .i64 0, .int .i64 0]) (t := 35) ?hr ?_; (case hd => rfl); (case hg => rfl); (case hr => first | (go_simp; done) | (go_simp; rfl)); intro gb130 hg w34 hbox hb; have n0_ := krb HO105 hb; have n1_ := krb HO108 hb; have n2_ := krb HO111 hb; have n3_ := krb HO114 hb; have n4_ := krb HO117 hb; have n5_ := krb HO121 hb; have n6_ := kbb BK101 hb; have n7_ := Aside0.mk (below_step (by repeat (first | (with_reducible first | exact HB.out | apply below_alloc | apply pw_below_drewN | apply below_drew1 | refine below_set ?_ GE101.out) | exact HB.out)) hb); have n8_ := Aside0.mk (hbox); have n9_ := Aside0.mk ((by rw [hg]; exact (below_size (by repeat (first | (with_reducible first | exact HB.out | apply below_alloc | apply pw_below_drewN | apply below_drew1 | refine below_set ?_ GE101.out) | exact HB.out))) : w.heap.size ≤ gb130)); have n10_ := Aside0.mk ((by rw [hg]; exact (below_size (by repeat (first | (with_reducible first | exact HB.out | apply below_alloc | apply pw_below_drewN | apply below_drew1 | refine below_set ?_ GE101.out) | exact HB.out))) : w.heap.size ≤ gb130)); have n11_ := Aside0.mk ((by rw [hg]; exact Nat.ne_of_lt (blk_lt (g := gb101) (o := .cells #[.slice Ao25 t103.length co25, .slice Ao27 t106.length co27, .slice Ao28 t109.length co28, .slice Ao29 t112.length co29, .slice Ao30 t115.length co30] 27 (0, 0)) (kb BK101)) : gb101 ≠ gb130)); have n12_ := Aside0.mk ((by rw [hg]; exact Nat.ne_of_gt (blk_lt (g := gb101) (o := .cells #[.slice Ao25 t103.length co25, .slice Ao27 t106.length co27, .slice Ao28 t109.length co28, .slice Ao29 t112.length co29, .slice Ao30 t115.length co30] 27 (0, 0)) (kb BK101)) : gb130 ≠ gb101)); clear HO105; clear HO108; clear HO111; clear HO114; clear HO117; clear HO121; clear BK101; clear HB; have HO105 := n0_; have HO108 := n1_; have HO111 := n2_; have HO114 := n3_; have HO117 := n4_; have HO121 := n5_; have BK101 := n6_; have HB := n7_; have BK130 := n8_; have GW130 := n9_; have GE130 := n10_; have NB101_130 := n11_; have NB130_101 := n12_; clear n0_ n1_ n2_ n3_ n4_ n5_ n6_ n7_ n8_ n9_ n10_ n11_ n12_; clear hb hbox hg; have hnb35 := NB130_101.out; have hnc35 := NB101_130.out; have hcz36_0 := kc BK130 0 rfl; have hcz36_1 := kc BK130 1 rfl; have hcz36_2 := kc BK130 2 rfl; have hcz36_3 := kc BK130 3 rfl; have hcz36_4 := kc BK130 4 rfl; have hcz36_5 := kc BK130 5 rfl; have hcz36_6 := kc BK130 6 rfl; have hfz36_0 := blk_frozen BK130.out 0; have hfz36_1 := blk_frozen BK130.out 1; have hfz36_2 := blk_frozen BK130.out 2; have hfz36_3 := blk_frozen BK130.out 3; have hfz36_4 := blk_frozen BK130.out 4; have hfz36_5 := blk_frozen BK130.out 5; have hfz36_6 := blk_frozen BK130.out 6; have hcz37_0 := kc BK101 0 rfl; have hcz37_1 := kc BK101 1 rfl; have hcz37_2 := kc BK101 2 rfl; have hcz37_3 := kc BK101 3 rfl; have hcz37_4 := kc BK101 4 rfl; have hfz37_0 := blk_frozen BK101.out 0; have hfz37_1 := blk_frozen BK101.out 1; have hfz37_2 := blk_frozen BK101.out 2; have hfz37_3 := blk_frozen BK101.out 3; have hfz37_4 := blk_frozen BK101.out 4) | ((with_reducible refine gate_callee (f := 15) rfl ?_); refine goesL_ (some 37) rfl rfl Try.func15 (by kernel_rfl) rfl #[.agg #[.slice Ao25 t103.length co25, .slice Ao27 t106.length co27, .slice Ao28 t109.length co28, .slice Ao29 t112.length co29, .slice Ao30 t115.length co30], .int .i64 8, .int .i64 (wrap64 (1 + (Go.bits .and .i64 a1 3)))] rfl (by (try simp only [List.map_toArray, List.map_cons, List.map_nil]); first | done | rfl | (simp only [List.length_drop, List.length_take]; rfl)) ?_; (with_reducible refine (block_Encode.calls _ _ t103 _ _ t106 _ _ t109 _ _ t112 _ _ t115 8 (wrap64 (1 + (Go.bits .and .i64 a1 3))) t131 t134 t135 t136 t137 t138 t139 t140 t141 _ ?side1 ?side2 ?side3 ?side4 ?side5 ?side6 ?side7 ?side8 ?side9 ?side10 A8.out).mono ?_); (case side1 => refine (Kd.R_reads' (e := 56) (base := w.heap.size) (ok := fun k_ => True) (n := t103.length) (c := co25) ?_).2.2; exact (by (with_reducible repeat (first | apply Kd.R_alloc | apply Kd.R_drewN | apply Kd.R_drew)); exact (rp7 HO105 BK130))); (case side2 => exact (Kd.R_reads' HO105.out).2.1); (case side3 => refine (Kd.R_reads' (e := 54) (base := w.heap.size) (ok := fun k_ => True) (n := t106.length) (c := co27) ?_).2.2; exact (by (with_reducible repeat (first | apply Kd.R_alloc | apply Kd.R_drewN | apply Kd.R_drew)); exact (rp7 HO108 BK130))); (case side4 => exact (Kd.R_reads' HO108.out).2.1); (case side5 => refine (Kd.R_reads' (e := 67) (base := w.heap.size) (ok := fun k_ => True) (n := t109.length) (c := co28) ?_).2.2; exact (by (with_reducible repeat (first | apply Kd.R_alloc | apply Kd.R_drewN | apply Kd.R_drew)); exact (rp7 HO111 BK130))); (case side6 => exact (Kd.R_reads' HO111.out).2.1); (case side7 => refine (Kd.R_reads' (e := 4) (base := w.heap.size) (ok := fun k_ => some k_ ≠ (.slice Ao30 t115.length co30 : Value).ownBlock) (n := t112.length) (c := co29) ?_).2.2; exact (by (with_reducible repeat (first | apply Kd.R_alloc | apply Kd.R_drewN | apply Kd.R_drew)); exact (rp7 HO114 BK130))); (case side8 => exact (Kd.R_reads' HO114.out).2.1); (case side9 => refine (Kd.R_reads' (e := 4) (base := w.heap.size) (ok := fun k_ => some k_ ≠ (.slice Ao29 t112.length co29 : Value).ownBlock) (n := t115.length) (c := co30) ?_).2.2; exact (by (with_reducible repeat (first | apply Kd.R_alloc | apply Kd.R_drewN | apply Kd.R_drew)); exact (rp7 HO117 BK130))); (case side10 => exact (Kd.R_reads' HO117.out).2.1); rintro e w38 ⟨v132, rfl, ho0, hb⟩; refine ⟨_, rfl, ?_⟩; have n0_ := Aside0.mk (Kd.R_below (by (with_reducible repeat (first | apply Kd.R_alloc | apply Kd.R_drewN | apply Kd.R_drew)); exact (rp7 HO105 BK130)) hb); have n1_ := Aside0.mk (Kd.R_below (by (with_reducible repeat (first | apply Kd.R_alloc | apply Kd.R_drewN | apply Kd.R_drew)); exact (rp7 HO108 BK130)) hb); have n2_ := Aside0.mk (Kd.R_below (by (with_reducible repeat (first | apply Kd.R_alloc | apply Kd.R_drewN | apply Kd.R_drew)); exact (rp7 HO111 BK130)) hb); have n3_ := Aside0.mk (Kd.R_below (by (with_reducible repeat (first | apply Kd.R_alloc | apply Kd.R_drewN | apply Kd.R_drew)); exact (rp7 HO114 BK130)) hb); have n4_ := Aside0.mk (Kd.R_below (by (with_reducible repeat (first | apply Kd.R_alloc | apply Kd.R_drewN | apply Kd.R_drew)); exact (rp7 HO117 BK130)) hb); have n5_ := Aside0.mk (Kd.R_elder' (by (with_reducible repeat (first | apply Kd.R_alloc | apply Kd.R_drewN | apply Kd.R_drew)); exact (rp7 HO121 BK130)) (Kd.R_base ho0) hb); have n6_ := Aside0.mk (Kd.R_lower (Kd.R_new' ho0 (Kd.R_lt (by (with_reducible repeat (first | apply Kd.R_alloc | apply Kd.R_drewN | apply Kd.R_drew)); exact (rp7 HO121 BK130)))) (below_size (by repeat (first | (with_reducible first | exact HB.out | apply below_alloc | apply pw_below_drewN | apply below_drew1 | refine below_set ?_ GE101.out | refine below_set ?_ GE130.out) | exact HB.out)))); have n7_ := Aside0.mk (blk_below (g := gb101) (o := .cells #[.slice Ao25 t103.length co25, .slice Ao27 t106.length co27, .slice Ao28 t109.length co28, .slice Ao29 t112.length co29, .slice Ao30 t115.length co30] 27 (0, 0)) (by (with_reducible repeat (first | refine blk_drewN ?_ _ | refine blk_drew ?_ | refine blk_alloc ?_ _)); refine blk_far ?_ NB101_130.out _; (with_reducible repeat (first | refine blk_drewN ?_ _ | refine blk_drew ?_ | refine blk_alloc ?_ _)); refine blk_far ?_ NB101_130.out _; (with_reducible repeat (first | refine blk_drewN ?_ _ | refine blk_drew ?_ | refine blk_alloc ?_ _)); refine blk_far ?_ NB101_130.out _; (with_reducible repeat (first | refine blk_drewN ?_ _ | refine blk_drew ?_ | refine blk_alloc ?_ _)); refine blk_far ?_ NB101_130.out _; (with_reducible repeat (first | refine blk_drewN ?_ _ | refine blk_drew ?_ | refine blk_alloc ?_ _)); refine blk_far ?_ NB101_130.out _; (with_reducible repeat (first | refine blk_drewN ?_ _ | refine blk_drew ?_ | refine blk_alloc ?_ _)); refine blk_far ?_ NB101_130.out _; (with_reducible repeat (first | refine blk_drewN ?_ _ | refine blk_drew ?_ | refine blk_alloc ?_ _)); refine blk_far ?_ NB101_130.out _; (with_reducible repeat (first | refine blk_drewN ?_ _ | refine blk_drew ?_ | refine blk_alloc ?_ _)); exact BK101.out) hb); have n8_ := Aside0.mk (blk_below (g := gb130) (o := .cells #[.int .i64 t122, .int .i64 t123, .int .i64 t124, .int .i64 t125, .int .i64 t126, .int .i64 t127, .int .i64 t128] 35 (0, 0)) (by (with_reducible repeat (first | refine blk_drewN ?_ _ | refine blk_drew ?_ | refine blk_alloc ?_ _)); refine blk_put (cs := #[.int .i64 t122, .int .i64 t123, .int .i64 t124, .int .i64 t125, .int .i64 t126, .int .i64 t127, .int .i64 0]) ?_ 6 _ rfl; (with_reducible repeat (first | refine blk_drewN ?_ _ | refine blk_drew ?_ | refine blk_alloc ?_ _)); refine blk_put (cs := #[.int .i64 t122, .int .i64 t123, .int .i64 t124, .int .i64 t125, .int .i64 t126, .int .i64 0, .int .i64 0]) ?_ 5 _ rfl; (with_reducible repeat (first | refine blk_drewN ?_ _ | refine blk_drew ?_ | refine blk_alloc ?_ _)); refine blk_put (cs := #[.int .i64 t122, .int .i64 t123, .int .i64 t124, .int .i64 t125, .int .i64 0, .int .i64 0, .int .i64 0]) ?_ 4 _ rfl; (with_reducible repeat (first | refine blk_drewN ?_ _ | refine blk_drew ?_ | refine blk_alloc ?_ _)); refine blk_put (cs := #[.int .i64 t122, .int .i64 t123, .int .i64 t124, .int .i64 0, .int .i64 0, .int .i64 0, .int .i64 0]) ?_ 3 _ rfl; (with_reducible repeat (first | refine blk_drewN ?_ _ | refine blk_drew ?_ | refine blk_alloc ?_ _)); refine blk_put (cs := #[.int .i64 t122, .int .i64 t123, .int .i64 0, .int .i64 0, .int .i64 0, .int .i64 0, .int .i64 0]) ?_ 2 _ rfl; (with_reducible repeat (first | refine blk_drewN ?_ _ | refine blk_drew ?_ | refine blk_alloc ?_ _)); refine blk_put (cs := #[.int .i64 t122, .int .i64 0, .int .i64 0, .int .i64 0, .int .i64 0, .int .i64 0, .int .i64 0]) ?_ 1 _ rfl; (with_reducible repeat (first | refine blk_drewN ?_ _ | refine blk_drew ?_ | refine blk_alloc ?_ _)); refine blk_put (cs := #[.int .i64 0, .int .i64 0, .int .i64 0, .int .i64 0, .int .i64 0, .int .i64 0, .int .i64 0]) ?_ 0 _ rfl; (with_reducible repeat (first | refine blk_drewN ?_ _ | refine blk_drew ?_ | refine blk_alloc ?_ _)); exact BK130.out) hb); have n9_ := Aside0.mk (below_step (by repeat (first | (with_reducible first | exact HB.out | apply below_alloc | apply pw_below_drewN | apply below_drew1 | refine below_set ?_ GE101.out | refine below_set ?_ GE130.out) | exact HB.out)) hb); clear HO105; clear HO108; clear HO111; clear HO114; clear HO117; clear HO121; clear BK101; clear BK130; clear HB; have HO105 := n0_; have HO108 := n1_; have HO111 := n2_; have HO114 := n3_; have HO117 := n4_; have HO121 := n5_; have HO133 := n6_; have BK101 := n7_; have BK130 := n8_; have HB := n9_; clear n0_ n1_ n2_ n3_ n4_ n5_ n6_ n7_ n8_ n9_; (try clear hb); (try clear hb2); (try clear hk); (try clear hi); (try clear ho0)) | ((with_reducible refine gate_dst (N := 10) rfl ?_); (try (refine gate_guard (by rfl) ?_; dsimp only)); refine box_event ?hg (N := 10) ?hd (cs := #[.int .i64 0, .int .i64 0, .int .i64 0, .int .i64 0, .int .i64 0, .int .i64 0, .int .i64 0]) (t := 35) ?hr ?_; (case hd => rfl); (case hg => rfl); (case hr => first | (go_simp; done) | (go_simp; rfl)); intro gb142 hg w39 hbox hb; have n0_ := krb HO105 hb; have n1_ := krb HO108 hb; have n2_ := krb HO111 hb; have n3_ := krb HO114 hb; have n4_ := krb HO117 hb; have n5_ := krb HO121 hb; have n6_ := krb HO133 hb; have n7_ := kbb BK101 hb; have n8_ := kbb BK130 hb; have n9_ := Aside0.mk (below_step (by repeat (first | (with_reducible first | exact HB.out | apply below_alloc | apply pw_below_drewN | apply below_drew1 | refine below_set ?_ GE101.out | refine below_set ?_ GE130.out) | exact HB.out)) hb); have n10_ := Aside0.mk (hbox); have n11_ := Aside0.mk ((by rw [hg]; exact (below_size (by repeat (first | (with_reducible first | exact HB.out | apply below_alloc | apply pw_below_drewN | apply below_drew1 | refine below_set ?_ GE101.out | refine below_set ?_ GE130.out) | exact HB.out))) : w.heap.size ≤ gb142)); have n12_ := Aside0.mk ((by rw [hg]; exact (below_size (by repeat (first | (with_reducible first | exact HB.out | apply below_alloc | apply pw_below_drewN | apply below_drew1 | refine below_set ?_ GE101.out | refine below_set ?_ GE130.out) | exact HB.out))) : w.heap.size ≤ gb142)); have n13_ := Aside0.mk ((by rw [hg]; exact Nat.ne_of_lt (blk_lt (g := gb101) (o := .cells #[.slice Ao25 t103.length co25, .slice Ao27 t106.length co27, .slice Ao28 t109.length co28, .slice Ao29 t112.length co29, .slice Ao30 t115.length co30] 27 (0, 0)) (kb BK101)) : gb101 ≠ gb142)); have n14_ := Aside0.mk ((by rw [hg]; exact Nat.ne_of_gt (blk_lt (g := gb101) (o := .cells #[.slice Ao25 t103.length co25, .slice Ao27 t106.length co27, .slice Ao28 t109.length co28, .slice Ao29 t112.length co29, .slice Ao30 t115.length co30] 27 (0, 0)) (kb BK101)) : gb142 ≠ gb101)); have n15_ := Aside0.mk ((by rw [hg]; exact Nat.ne_of_lt (blk_lt (g := gb130) (o := .cells #[.int .i64 t122, .int .i64 t123, .int .i64 t124, .int .i64 t125, .int .i64 t126, .int .i64 t127, .int .i64 t128] 35 (0, 0)) (kb BK130)) : gb130 ≠ gb142)); have n16_ := Aside0.mk ((by rw [hg]; exact Nat.ne_of_gt (blk_lt (g := gb130) (o := .cells #[.int .i64 t122, .int .i64 t123, .int .i64 t124, .int .i64 t125, .int .i64 t126, .int .i64 t127, .int .i64 t128] 35 (0, 0)) (kb BK130)) : gb142 ≠ gb130)); clear HO105; clear HO108; clear HO111; clear HO114; clear HO117; clear HO121; clear HO133; clear BK101; clear BK130; clear HB; have HO105 := n0_; have HO108 := n1_; have HO111 := n2_; have HO114 := n3_; have HO117 := n4_; have HO121 := n5_; have HO133 := n6_; have BK101 := n7_; have BK130 := n8_; have HB := n9_; have BK142 := n10_; have GW142 := n11_; have GE142 := n12_; have NB101_142 := n13_; have NB142_101 := n14_; have NB130_142 := n15_; have NB142_130 := n16_; clear n0_ n1_ n2_ n3_ n4_ n5_ n6_ n7_ n8_ n9_ n10_ n11_ n12_ n13_ n14_ n15_ n16_; clear hb hbox hg; have hnb40 := NB142_101.out; have hnc40 := NB101_142.out; have hnb41 := NB142_130.out; have hnc41 := NB130_142.out; have hcz42_0 := kc BK142 0 rfl; have hcz42_1 := kc BK142 1 rfl; have hcz42_2 := kc BK142 2 rfl; have hcz42_3 := kc BK142 3 rfl; have hcz42_4 := kc BK142 4 rfl; have hcz42_5 := kc BK142 5 rfl; have hcz42_6 := kc BK142 6 rfl; have hfz42_0 := blk_frozen BK142.out 0; have hfz42_1 := blk_frozen BK142.out 1; have hfz42_2 := blk_frozen BK142.out 2; have hfz42_3 := blk_frozen BK142.out 3; have hfz42_4 := blk_frozen BK142.out 4; have hfz42_5 := blk_frozen BK142.out 5; have hfz42_6 := blk_frozen BK142.out 6; have hcz43_0 := kc BK130 0 rfl; have hcz43_1 := kc BK130 1 rfl; have hcz43_2 := kc BK130 2 rfl; have hcz43_3 := kc BK130 3 rfl; have hcz43_4 := kc BK130 4 rfl; have hcz43_5 := kc BK130 5 rfl; have hcz43_6 := kc BK130 6 rfl; have hfz43_0 := blk_frozen BK130.out 0; have hfz43_1 := blk_frozen BK130.out 1; have hfz43_2 := blk_frozen BK130.out 2; have hfz43_3 := blk_frozen BK130.out 3; have hfz43_4 := blk_frozen BK130.out 4; have hfz43_5 := blk_frozen BK130.out 5; have hfz43_6 := blk_frozen BK130.out 6; obtain ⟨Ao44, co44, eo44⟩ := Kd.R_slice HO121.out; subst eo44) | ((with_reducible refine gate_callee (f := 21) rfl ?_); refine goesL_ (some 44) rfl rfl Try.func21 (by kernel_rfl) rfl #[.slice Ao44 t119.length co44, .agg #[.int .i64 t122, .int .i64 t123, .int .i64 t124, .int .i64 t125, .int .i64 t126, .int .i64 t127, .int .i64 t128], .int .i64 4] rfl (by (try simp only [List.map_toArray, List.map_cons, List.map_nil]); first | done | rfl | (simp only [List.length_drop, List.length_take]; rfl)) ?_; (with_reducible refine (block_Decode.calls _ _ t119 t122 t123 t124 t125 t126 t127 t128 4 t143 t146 t149 t152 t155 t158 _ ?side1 ?side2 A9.out).mono ?_); (case side1 => refine (Kd.R_reads' (e := 5) (base := w.heap.size) (ok := fun k_ => (True ∧ some k_ ≠ (v132 : Value).ownBlock)) (n := t119.length) (c := co44) ?_).2.2; exact (by (with_reducible repeat (first | apply Kd.R_alloc | apply Kd.R_drewN | apply Kd.R_drew)); exact (rp7 HO121 BK142))); (case side2 => exact (Kd.R_reads' HO121.out).2.1); rintro e w45 ⟨v144, v147, v150, v153, v156, rfl, ho0, ho1, ho2, ho3, ho4, hb⟩; refine ⟨_, rfl, ?_⟩; have n0_ := Aside0.mk (Kd.R_elder' (by (with_reducible repeat (first | apply Kd.R_alloc | apply Kd.R_drewN | apply Kd.R_drew)); exact (rp7 HO105 BK142)) (Kd.R_base ho0) hb); have n1_ := Aside0.mk (Kd.R_elder' (by (with_reducible repeat (first | apply Kd.R_alloc | apply Kd.R_drewN | apply Kd.R_drew)); exact (rp7 HO108 BK142)) (Kd.R_base ho1) hb); have n2_ := Aside0.mk (Kd.R_elder' (by (with_reducible repeat (first | apply Kd.R_alloc | apply Kd.R_drewN | apply Kd.R_drew)); exact (rp7 HO111 BK142)) (Kd.R_base ho2) hb); have n3_ := Aside0.mk (Kd.R_mono (Kd.R_told (Kd.R_told (Kd.R_old (by (with_reducible repeat (first | apply Kd.R_alloc | apply Kd.R_drewN | apply Kd.R_drew)); exact (rp7 HO114 BK142)) hb) (Kd.R_base ho3)) (Kd.R_base ho4)) (fun _ h_ => h_.1)); have n4_ := Aside0.mk (Kd.R_mono (Kd.R_told (Kd.R_told (Kd.R_old (by (with_reducible repeat (first | apply Kd.R_alloc | apply Kd.R_drewN | apply Kd.R_drew)); exact (rp7 HO117 BK142)) hb) (Kd.R_base ho3)) (Kd.R_base ho4)) (fun _ h_ => h_.1)); have n5_ := Aside0.mk (Kd.R_below (by (with_reducible repeat (first | apply Kd.R_alloc | apply Kd.R_drewN | apply Kd.R_drew)); exact (rp7 HO121 BK142)) hb); have n6_ := Aside0.mk (Kd.R_below (by (with_reducible repeat (first | apply Kd.R_alloc | apply Kd.R_drewN | apply Kd.R_drew)); exact (rp7 HO133 BK142)) hb); have n7_ := Aside0.mk (Kd.R_lower (Kd.R_new' ho0 (Kd.R_lt (by (with_reducible repeat (first | apply Kd.R_alloc | apply Kd.R_drewN | apply Kd.R_drew)); exact (rp7 HO105 BK142)))) (below_size (by repeat (first | (with_reducible first | exact HB.out | apply below_alloc | apply pw_below_drewN | apply below_drew1 | refine below_set ?_ GE101.out | refine below_set ?_ GE130.out | refine below_set ?_ GE142.out) | exact HB.out)))); have n8_ := Aside0.mk (Kd.R_lower (Kd.R_new' ho1 (Kd.R_lt (by (with_reducible repeat (first | apply Kd.R_alloc | apply Kd.R_drewN | apply Kd.R_drew)); exact (rp7 HO108 BK142)))) (below_size (by repeat (first | (with_reducible first | exact HB.out | apply below_alloc | apply pw_below_drewN | apply below_drew1 | refine below_set ?_ GE101.out | refine below_set ?_ GE130.out | refine below_set ?_ GE142.out) | exact HB.out)))); have n9_ := Aside0.mk (Kd.R_lower (Kd.R_new' ho2 (Kd.R_lt (by (with_reducible repeat (first | apply Kd.R_alloc | apply Kd.R_drewN | apply Kd.R_drew)); exact (rp7 HO111 BK142)))) (below_size (by repeat (first | (with_reducible first | exact HB.out | apply below_alloc | apply pw_below_drewN | apply below_drew1 | refine below_set ?_ GE101.out | refine below_set ?_ GE130.out | refine below_set ?_ GE142.out) | exact HB.out)))); have n10_ := Aside0.mk (Kd.R_lower (Kd.R_new' (Kd.R_new' ho3 (Kd.R_lt (by (with_reducible repeat (first | apply Kd.R_alloc | apply Kd.R_drewN | apply Kd.R_drew)); exact (rp7 HO114 BK142)))) (Kd.R_lt (by (with_reducible repeat (first | apply Kd.R_alloc | apply Kd.R_drewN | apply Kd.R_drew)); exact (rp7 HO117 BK142)))) (below_size (by repeat (first | (with_reducible first | exact HB.out | apply below_alloc | apply pw_below_drewN | apply below_drew1 | refine below_set ?_ GE101.out | refine below_set ?_ GE130.out | refine below_set ?_ GE142.out) | exact HB.out)))); have n11_ := Aside0.mk (Kd.R_lower (Kd.R_new' (Kd.R_new' ho4 (Kd.R_lt (by (with_reducible repeat (first | apply Kd.R_alloc | apply Kd.R_drewN | apply Kd.R_drew)); exact (rp7 HO114 BK142)))) (Kd.R_lt (by (with_reducible repeat (first | apply Kd.R_alloc | apply Kd.R_drewN | apply Kd.R_drew)); exact (rp7 HO117 BK142)))) (below_size (by repeat (first | (with_reducible first | exact HB.out | apply below_alloc | apply pw_below_drewN | apply below_drew1 | refine below_set ?_ GE101.out | refine below_set ?_ GE130.out | refine below_set ?_ GE142.out) | exact HB.out)))); have n12_ := Aside0.mk (blk_below (g := gb101) (o := .cells #[.slice Ao25 t103.length co25, .slice Ao27 t106.length co27, .slice Ao28 t109.length co28, .slice Ao29 t112.length co29, .slice Ao30 t115.length co30] 27 (0, 0)) (by (with_reducible repeat (first | refine blk_drewN ?_ _ | refine blk_drew ?_ | refine blk_alloc ?_ _)); refine blk_far ?_ NB101_142.out _; (with_reducible repeat (first | refine blk_drewN ?_ _ | refine blk_drew ?_ | refine blk_alloc ?_ _)); refine blk_far ?_ NB101_142.out _; (with_reducible repeat (first | refine blk_drewN ?_ _ | refine blk_drew ?_ | refine blk_alloc ?_ _)); refine blk_far ?_ NB101_142.out _; (with_reducible repeat (first | refine blk_drewN ?_ _ | refine blk_drew ?_ | refine blk_alloc ?_ _)); refine blk_far ?_ NB101_142.out _; (with_reducible repeat (first | refine blk_drewN ?_ _ | refine blk_drew ?_ | refine blk_alloc ?_ _)); refine blk_far ?_ NB101_142.out _; (with_reducible repeat (first | refine blk_drewN ?_ _ | refine blk_drew ?_ | refine blk_alloc ?_ _)); refine blk_far ?_ NB101_142.out _; (with_reducible repeat (first | refine blk_drewN ?_ _ | refine blk_drew ?_ | refine blk_alloc ?_ _)); refine blk_far ?_ NB101_142.out _; (with_reducible repeat (first | refine blk_drewN ?_ _ | refine blk_drew ?_ | refine blk_alloc ?_ _)); exact BK101.out) hb); have n13_ := Aside0.mk (blk_below (g := gb130) (o := .cells #[.int .i64 t122, .int .i64 t123, .int .i64 t124, .int .i64 t125, .int .i64 t126, .int .i64 t127, .int .i64 t128] 35 (0, 0)) (by (with_reducible repeat (first | refine blk_drewN ?_ _ | refine blk_drew ?_ | refine blk_alloc ?_ _)); refine blk_far ?_ NB130_142.out _; (with_reducible repeat (first | refine blk_drewN ?_ _ | refine blk_drew ?_ | refine blk_alloc ?_ _)); refine blk_far ?_ NB130_142.out _; (with_reducible repeat (first | refine blk_drewN ?_ _ | refine blk_drew ?_ | refine blk_alloc ?_ _)); refine blk_far ?_ NB130_142.out _; (with_reducible repeat (first | refine blk_drewN ?_ _ | refine blk_drew ?_ | refine blk_alloc ?_ _)); refine blk_far ?_ NB130_142.out _; (with_reducible repeat (first | refine blk_drewN ?_ _ | refine blk_drew ?_ | refine blk_alloc ?_ _)); refine blk_far ?_ NB130_142.out _; (with_reducible repeat (first | refine blk_drewN ?_ _ | refine blk_drew ?_ | refine blk_alloc ?_ _)); refine blk_far ?_ NB130_142.out _; (with_reducible repeat (first | refine blk_drewN ?_ _ | refine blk_drew ?_ | refine blk_alloc ?_ _)); refine blk_far ?_ NB130_142.out _; (with_reducible repeat (first | refine blk_drewN ?_ _ | refine blk_drew ?_ | refine blk_alloc ?_ _)); exact BK130.out) hb); have n14_ := Aside0.mk (blk_below (g := gb142) (o := .cells #[.int .i64 t134, .int .i64 t135, .int .i64 t136, .int .i64 t137, .int .i64 t138, .int .i64 t139, .int .i64 t140] 35 (0, 0)) (by (with_reducible repeat (first | refine blk_drewN ?_ _ | refine blk_drew ?_ | refine blk_alloc ?_ _)); refine blk_put (cs := #[.int .i64 t134, .int .i64 t135, .int .i64 t136, .int .i64 t137, .int .i64 t138, .int .i64 t139, .int .i64 0]) ?_ 6 _ rfl; (with_reducible repeat (first | refine blk_drewN ?_ _ | refine blk_drew ?_ | refine blk_alloc ?_ _)); refine blk_put (cs := #[.int .i64 t134, .int .i64 t135, .int .i64 t136, .int .i64 t137, .int .i64 t138, .int .i64 0, .int .i64 0]) ?_ 5 _ rfl; (with_reducible repeat (first | refine blk_drewN ?_ _ | refine blk_drew ?_ | refine blk_alloc ?_ _)); refine blk_put (cs := #[.int .i64 t134, .int .i64 t135, .int .i64 t136, .int .i64 t137, .int .i64 0, .int .i64 0, .int .i64 0]) ?_ 4 _ rfl; (with_reducible repeat (first | refine blk_drewN ?_ _ | refine blk_drew ?_ | refine blk_alloc ?_ _)); refine blk_put (cs := #[.int .i64 t134, .int .i64 t135, .int .i64 t136, .int .i64 0, .int .i64 0, .int .i64 0, .int .i64 0]) ?_ 3 _ rfl; (with_reducible repeat (first | refine blk_drewN ?_ _ | refine blk_drew ?_ | refine blk_alloc ?_ _)); refine blk_put (cs := #[.int .i64 t134, .int .i64 t135, .int .i64 0, .int .i64 0, .int .i64 0, .int .i64 0, .int .i64 0]) ?_ 2 _ rfl; (with_reducible repeat (first | refine blk_drewN ?_ _ | refine blk_drew ?_ | refine blk_alloc ?_ _)); refine blk_put (cs := #[.int .i64 t134, .int .i64 0, .int .i64 0, .int .i64 0, .int .i64 0, .int .i64 0, .int .i64 0]) ?_ 1 _ rfl; (with_reducible repeat (first | refine blk_drewN ?_ _ | refine blk_drew ?_ | refine blk_alloc ?_ _)); refine blk_put (cs := #[.int .i64 0, .int .i64 0, .int .i64 0, .int .i64 0, .int .i64 0, .int .i64 0, .int .i64 0]) ?_ 0 _ rfl; (with_reducible repeat (first | refine blk_drewN ?_ _ | refine blk_drew ?_ | refine blk_alloc ?_ _)); exact BK142.out) hb); have n15_ := Aside0.mk (below_step (by repeat (first | (with_reducible first | exact HB.out | apply below_alloc | apply pw_below_drewN | apply below_drew1 | refine below_set ?_ GE101.out | refine below_set ?_ GE130.out | refine below_set ?_ GE142.out) | exact HB.out)) hb); clear HO105; clear HO108; clear HO111; clear HO114; clear HO117; clear HO121; clear HO133; clear BK101; clear BK130; clear BK142; clear HB; have HO105 := n0_; have HO108 := n1_; have HO111 := n2_; have HO114 := n3_; have HO117 := n4_; have HO121 := n5_; have HO133 := n6_; have HO145 := n7_; have HO148 := n8_; have HO151 := n9_; have HO154 := n10_; have HO157 := n11_; have BK101 := n12_; have BK130 := n13_; have BK142 := n14_; have HB := n15_; clear n0_ n1_ n2_ n3_ n4_ n5_ n6_ n7_ n8_ n9_ n10_ n11_ n12_ n13_ n14_ n15_; (try clear hb); (try clear hb2); (try clear hk); (try clear hi); (try clear ho0); (try clear ho1); (try clear ho2); (try clear ho3); (try clear ho4)) | ((with_reducible refine gate_dst (N := 12) rfl ?_); (try (refine gate_guard (by rfl) ?_; dsimp only)); refine box_event ?hg (N := 12) ?hd (cs := #[.slice none 0 0, .slice none 0 0, .slice none 0 0, .slice none 0 0, .slice none 0 0]) (t := 27) ?hr ?_; (case hd => rfl); (case hg => rfl); (case hr => first | (go_simp; done) | (go_simp; rfl)); intro gb159 hg w46 hbox hb; have n0_ := krb HO105 hb; have n1_ := krb HO108 hb; have n2_ := krb HO111 hb; have n3_ := krb HO114 hb; have n4_ := krb HO117 hb; have n5_ := krb HO121 hb; have n6_ := krb HO133 hb; have n7_ := krb HO145 hb; have n8_ := krb HO148 hb; have n9_ := krb HO151 hb; have n10_ := krb HO154 hb; have n11_ := krb HO157 hb; have n12_ := kbb BK101 hb; have n13_ := kbb BK130 hb; have n14_ := kbb BK142 hb; have n15_ := Aside0.mk (below_step (by repeat (first | (with_reducible first | exact HB.out | apply below_alloc | apply pw_below_drewN | apply below_drew1 | refine below_set ?_ GE101.out | refine below_set ?_ GE130.out | refine below_set ?_ GE142.out) | exact HB.out)) hb); have n16_ := Aside0.mk (hbox); have n17_ := Aside0.mk ((by rw [hg]; exact (below_size (by repeat (first | (with_reducible first | exact HB.out | apply below_alloc | apply pw_below_drewN | apply below_drew1 | refine below_set ?_ GE101.out | refine below_set ?_ GE130.out | refine below_set ?_ GE142.out) | exact HB.out))) : w.heap.size ≤ gb159)); have n18_ := Aside0.mk ((by rw [hg]; exact (below_size (by repeat (first | (with_reducible first | exact HB.out | apply below_alloc | apply pw_below_drewN | apply below_drew1 | refine below_set ?_ GE101.out | refine below_set ?_ GE130.out | refine below_set ?_ GE142.out) | exact HB.out))) : w.heap.size ≤ gb159)); have n19_ := Aside0.mk ((by rw [hg]; exact Nat.ne_of_lt (blk_lt (g := gb101) (o := .cells #[.slice Ao25 t103.length co25, .slice Ao27 t106.length co27, .slice Ao28 t109.length co28, .slice Ao29 t112.length co29, .slice Ao30 t115.length co30] 27 (0, 0)) (kb BK101)) : gb101 ≠ gb159)); have n20_ := Aside0.mk ((by rw [hg]; exact Nat.ne_of_gt (blk_lt (g := gb101) (o := .cells #[.slice Ao25 t103.length co25, .slice Ao27 t106.length co27, .slice Ao28 t109.length co28, .slice Ao29 t112.length co29, .slice Ao30 t115.length co30] 27 (0, 0)) (kb BK101)) : gb159 ≠ gb101)); have n21_ := Aside0.mk ((by rw [hg]; exact Nat.ne_of_lt (blk_lt (g := gb130) (o := .cells #[.int .i64 t122, .int .i64 t123, .int .i64 t124, .int .i64 t125, .int .i64 t126, .int .i64 t127, .int .i64 t128] 35 (0, 0)) (kb BK130)) : gb130 ≠ gb159)); have n22_ := Aside0.mk ((by rw [hg]; exact Nat.ne_of_gt (blk_lt (g := gb130) (o := .cells #[.int .i64 t122, .int .i64 t123, .int .i64 t124, .int .i64 t125, .int .i64 t126, .int .i64 t127, .int .i64 t128] 35 (0, 0)) (kb BK130)) : gb159 ≠ gb130)); have n23_ := Aside0.mk ((by rw [hg]; exact Nat.ne_of_lt (blk_lt (g := gb142) (o := .cells #[.int .i64 t134, .int .i64 t135, .int .i64 t136, .int .i64 t137, .int .i64 t138, .int .i64 t139, .int .i64 t140] 35 (0, 0)) (kb BK142)) : gb142 ≠ gb159)); have n24_ := Aside0.mk ((by rw [hg]; exact Nat.ne_of_gt (blk_lt (g := gb142) (o := .cells #[.int .i64 t134, .int .i64 t135, .int .i64 t136, .int .i64 t137, .int .i64 t138, .int .i64 t139, .int .i64 t140] 35 (0, 0)) (kb BK142)) : gb159 ≠ gb142)); clear HO105; clear HO108; clear HO111; clear HO114; clear HO117; clear HO121; clear HO133; clear HO145; clear HO148; clear HO151; clear HO154; clear HO157; clear BK101; clear BK130; clear BK142; clear HB; have HO105 := n0_; have HO108 := n1_; have HO111 := n2_; have HO114 := n3_; have HO117 := n4_; have HO121 := n5_; have HO133 := n6_; have HO145 := n7_; have HO148 := n8_; have HO151 := n9_; have HO154 := n10_; have HO157 := n11_; have BK101 := n12_; have BK130 := n13_; have BK142 := n14_; have HB := n15_; have BK159 := n16_; have GW159 := n17_; have GE159 := n18_; have NB101_159 := n19_; have NB159_101 := n20_; have NB130_159 := n21_; have NB159_130 := n22_; have NB142_159 := n23_; have NB159_142 := n24_; clear n0_ n1_ n2_ n3_ n4_ n5_ n6_ n7_ n8_ n9_ n10_ n11_ n12_ n13_ n14_ n15_ n16_ n17_ n18_ n19_ n20_ n21_ n22_ n23_ n24_; clear hb hbox hg; obtain ⟨Ao47, co47, eo47⟩ := Kd.R_slice HO145.out; subst eo47; have hnb48 := NB159_101.out; have hnc48 := NB101_159.out; have hnb49 := NB159_130.out; have hnc49 := NB130_159.out; have hnb50 := NB159_142.out; have hnc50 := NB142_159.out; have hcz51_0 := kc BK159 0 rfl; have hcz51_1 := kc BK159 1 rfl; have hcz51_2 := kc BK159 2 rfl; have hcz51_3 := kc BK159 3 rfl; have hcz51_4 := kc BK159 4 rfl; have hfz51_0 := blk_frozen BK159.out 0; have hfz51_1 := blk_frozen BK159.out 1; have hfz51_2 := blk_frozen BK159.out 2; have hfz51_3 := blk_frozen BK159.out 3; have hfz51_4 := blk_frozen BK159.out 4; obtain ⟨Ao52, co52, eo52⟩ := Kd.R_slice HO148.out; subst eo52; obtain ⟨Ao53, co53, eo53⟩ := Kd.R_slice HO151.out; subst eo53; obtain ⟨Ao54, co54, eo54⟩ := Kd.R_slice HO154.out; subst eo54; obtain ⟨Ao55, co55, eo55⟩ := Kd.R_slice HO157.out; subst eo55; have hcz56_0 := kc BK142 0 rfl; have hcz56_1 := kc BK142 1 rfl; have hcz56_2 := kc BK142 2 rfl; have hcz56_3 := kc BK142 3 rfl; have hcz56_4 := kc BK142 4 rfl; have hcz56_5 := kc BK142 5 rfl; have hcz56_6 := kc BK142 6 rfl; have hfz56_0 := blk_frozen BK142.out 0; have hfz56_1 := blk_frozen BK142.out 1; have hfz56_2 := blk_frozen BK142.out 2; have hfz56_3 := blk_frozen BK142.out 3; have hfz56_4 := blk_frozen BK142.out 4; have hfz56_5 := blk_frozen BK142.out 5; have hfz56_6 := blk_frozen BK142.out 6; obtain ⟨Ao57, co57, eo57⟩ := Kd.R_slice HO133.out; subst eo57) | ((with_reducible refine gate_callee (f := 21) rfl ?_); refine goesL_ (some 50) rfl rfl Try.func21 (by kernel_rfl) rfl #[.slice Ao57 t131.length co57, .agg #[.int .i64 t134, .int .i64 t135, .int .i64 t136, .int .i64 t137, .int .i64 t138, .int .i64 t139, .int .i64 t140], .int .i64 8] rfl (by (try simp only [List.map_toArray, List.map_cons, List.map_nil]); first | done | rfl | (simp only [List.length_drop, List.length_take]; rfl)) ?_; (with_reducible refine (block_Decode.calls _ _ t131 t134 t135 t136 t137 t138 t139 t140 8 t160 t163 t166 t169 t172 t175 _ ?side1 ?side2 A10.out).mono ?_); (case side1 => refine (Kd.R_reads' (e := 5) (base := w.heap.size) (ok := fun k_ => (True ∧ some k_ ≠ (.slice Ao44 t119.length co44 : Value).ownBlock)) (n := t131.length) (c := co57) ?_).2.2; exact (by (with_reducible repeat (first | apply Kd.R_alloc | apply Kd.R_drewN | apply Kd.R_drew)); exact (rp5 HO133 BK159))); (case side2 => exact (Kd.R_reads' HO133.out).2.1); rintro e w58 ⟨v161, v164, v167, v170, v173, rfl, ho0, ho1, ho2, ho3, ho4, hb⟩; refine ⟨_, rfl, ?_⟩; have n0_ := Aside0.mk (Kd.R_elder' (by (with_reducible repeat (first | apply Kd.R_alloc | apply Kd.R_drewN | apply Kd.R_drew)); exact (rp5 HO105 BK159)) (Kd.R_base ho0) hb); have n1_ := Aside0.mk (Kd.R_elder' (by (with_reducible repeat (first | apply Kd.R_alloc | apply Kd.R_drewN | apply Kd.R_drew)); exact (rp5 HO108 BK159)) (Kd.R_base ho1) hb); have n2_ := Aside0.mk (Kd.R_elder' (by (with_reducible repeat (first | apply Kd.R_alloc | apply Kd.R_drewN | apply Kd.R_drew)); exact (rp5 HO111 BK159)) (Kd.R_base ho2) hb); have n3_ := Aside0.mk (Kd.R_mono (Kd.R_told (Kd.R_told (Kd.R_old (by (with_reducible repeat (first | apply Kd.R_alloc | apply Kd.R_drewN | apply Kd.R_drew)); exact (rp5 HO114 BK159)) hb) (Kd.R_base ho3)) (Kd.R_base ho4)) (fun _ h_ => h_.1)); have n4_ := Aside0.mk (Kd.R_mono (Kd.R_told (Kd.R_told (Kd.R_old (by (with_reducible repeat (first | apply Kd.R_alloc | apply Kd.R_drewN | apply Kd.R_drew)); exact (rp5 HO117 BK159)) hb) (Kd.R_base ho3)) (Kd.R_base ho4)) (fun _ h_ => h_.1)); have n5_ := Aside0.mk (Kd.R_below (by (with_reducible repeat (first | apply Kd.R_alloc | apply Kd.R_drewN | apply Kd.R_drew)); exact (rp5 HO121 BK159)) hb); have n6_ := Aside0.mk (Kd.R_below (by (with_reducible repeat (first | apply Kd.R_alloc | apply Kd.R_drewN | apply Kd.R_drew)); exact (rp5 HO133 BK159)) hb); have n7_ := Aside0.mk (Kd.R_elder' (by (with_reducible repeat (first | apply Kd.R_alloc | apply Kd.R_drewN | apply Kd.R_drew)); exact (rp5 HO145 BK159)) (Kd.R_base ho0) hb); have n8_ := Aside0.mk (Kd.R_elder' (by (with_reducible repeat (first | apply Kd.R_alloc | apply Kd.R_drewN | apply Kd.R_drew)); exact (rp5 HO148 BK159)) (Kd.R_base ho1) hb); have n9_ := Aside0.mk (Kd.R_elder' (by (with_reducible repeat (first | apply Kd.R_alloc | apply Kd.R_drewN | apply Kd.R_drew)); exact (rp5 HO151 BK159)) (Kd.R_base ho2) hb); have n10_ := Aside0.mk (Kd.R_mono (Kd.R_told (Kd.R_told (Kd.R_old (by (with_reducible repeat (first | apply Kd.R_alloc | apply Kd.R_drewN | apply Kd.R_drew)); exact (rp5 HO154 BK159)) hb) (Kd.R_base ho3)) (Kd.R_base ho4)) (fun _ h_ => h_.1)); have n11_ := Aside0.mk (Kd.R_mono (Kd.R_told (Kd.R_told (Kd.R_old (by (with_reducible repeat (first | apply Kd.R_alloc | apply Kd.R_drewN | apply Kd.R_drew)); exact (rp5 HO157 BK159)) hb) (Kd.R_base ho3)) (Kd.R_base ho4)) (fun _ h_ => h_.1)); have n12_ := Aside0.mk (Kd.R_lower (Kd.R_new' (Kd.R_new' ho0 (Kd.R_lt (by (with_reducible repeat (first | apply Kd.R_alloc | apply Kd.R_drewN | apply Kd.R_drew)); exact (rp5 HO105 BK159)))) (Kd.R_lt (by (with_reducible repeat (first | apply Kd.R_alloc | apply Kd.R_drewN | apply Kd.R_drew)); exact (rp5 HO145 BK159)))) (below_size (by repeat (first | (with_reducible first | exact HB.out | apply below_alloc | apply pw_below_drewN | apply below_drew1 | refine below_set ?_ GE101.out | refine below_set ?_ GE130.out | refine below_set ?_ GE142.out | refine below_set ?_ GE159.out) | exact HB.out)))); have n13_ := Aside0.mk (Kd.R_lower (Kd.R_new' (Kd.R_new' ho1 (Kd.R_lt (by (with_reducible repeat (first | apply Kd.R_alloc | apply Kd.R_drewN | apply Kd.R_drew)); exact (rp5 HO108 BK159)))) (Kd.R_lt (by (with_reducible repeat (first | apply Kd.R_alloc | apply Kd.R_drewN | apply Kd.R_drew)); exact (rp5 HO148 BK159)))) (below_size (by repeat (first | (with_reducible first | exact HB.out | apply below_alloc | apply pw_below_drewN | apply below_drew1 | refine below_set ?_ GE101.out | refine below_set ?_ GE130.out | refine below_set ?_ GE142.out | refine below_set ?_ GE159.out) | exact HB.out)))); have n14_ := Aside0.mk (Kd.R_lower (Kd.R_new' (Kd.R_new' ho2 (Kd.R_lt (by (with_reducible repeat (first | apply Kd.R_alloc | apply Kd.R_drewN | apply Kd.R_drew)); exact (rp5 HO111 BK159)))) (Kd.R_lt (by (with_reducible repeat (first | apply Kd.R_alloc | apply Kd.R_drewN | apply Kd.R_drew)); exact (rp5 HO151 BK159)))) (below_size (by repeat (first | (with_reducible first | exact HB.out | apply below_alloc | apply pw_below_drewN | apply below_drew1 | refine below_set ?_ GE101.out | refine below_set ?_ GE130.out | refine below_set ?_ GE142.out | refine below_set ?_ GE159.out) | exact HB.out)))); have n15_ := Aside0.mk (Kd.R_lower (Kd.R_new' (Kd.R_new' (Kd.R_new' (Kd.R_new' ho3 (Kd.R_lt (by (with_reducible repeat (first | apply Kd.R_alloc | apply Kd.R_drewN | apply Kd.R_drew)); exact (rp5 HO114 BK159)))) (Kd.R_lt (by (with_reducible repeat (first | apply Kd.R_alloc | apply Kd.R_drewN | apply Kd.R_drew)); exact (rp5 HO117 BK159)))) (Kd.R_lt (by (with_reducible repeat (first | apply Kd.R_alloc | apply Kd.R_drewN | apply Kd.R_drew)); exact (rp5 HO154 BK159)))) (Kd.R_lt (by (with_reducible repeat (first | apply Kd.R_alloc | apply Kd.R_drewN | apply Kd.R_drew)); exact (rp5 HO157 BK159)))) (below_size (by repeat (first | (with_reducible first | exact HB.out | apply below_alloc | apply pw_below_drewN | apply below_drew1 | refine below_set ?_ GE101.out | refine below_set ?_ GE130.out | refine below_set ?_ GE142.out | refine below_set ?_ GE159.out) | exact HB.out)))); have n16_ := Aside0.mk (Kd.R_lower (Kd.R_new' (Kd.R_new' (Kd.R_new' (Kd.R_new' ho4 (Kd.R_lt (by (with_reducible repeat (first | apply Kd.R_alloc | apply Kd.R_drewN | apply Kd.R_drew)); exact (rp5 HO114 BK159)))) (Kd.R_lt (by (with_reducible repeat (first | apply Kd.R_alloc | apply Kd.R_drewN | apply Kd.R_drew)); exact (rp5 HO117 BK159)))) (Kd.R_lt (by (with_reducible repeat (first | apply Kd.R_alloc | apply Kd.R_drewN | apply Kd.R_drew)); exact (rp5 HO154 BK159)))) (Kd.R_lt (by (with_reducible repeat (first | apply Kd.R_alloc | apply Kd.R_drewN | apply Kd.R_drew)); exact (rp5 HO157 BK159)))) (below_size (by repeat (first | (with_reducible first | exact HB.out | apply below_alloc | apply pw_below_drewN | apply below_drew1 | refine below_set ?_ GE101.out | refine below_set ?_ GE130.out | refine below_set ?_ GE142.out | refine below_set ?_ GE159.out) | exact HB.out)))); have n17_ := Aside0.mk (blk_below (g := gb101) (o := .cells #[.slice Ao25 t103.length co25, .slice Ao27 t106.length co27, .slice Ao28 t109.length co28, .slice Ao29 t112.length co29, .slice Ao30 t115.length co30] 27 (0, 0)) (by (with_reducible repeat (first | refine blk_drewN ?_ _ | refine blk_drew ?_ | refine blk_alloc ?_ _)); refine blk_far ?_ NB101_159.out _; (with_reducible repeat (first | refine blk_drewN ?_ _ | refine blk_drew ?_ | refine blk_alloc ?_ _)); refine blk_far ?_ NB101_159.out _; (with_reducible repeat (first | refine blk_drewN ?_ _ | refine blk_drew ?_ | refine blk_alloc ?_ _)); refine blk_far ?_ NB101_159.out _; (with_reducible repeat (first | refine blk_drewN ?_ _ | refine blk_drew ?_ | refine blk_alloc ?_ _)); refine blk_far ?_ NB101_159.out _; (with_reducible repeat (first | refine blk_drewN ?_ _ | refine blk_drew ?_ | refine blk_alloc ?_ _)); refine blk_far ?_ NB101_159.out _; (with_reducible repeat (first | refine blk_drewN ?_ _ | refine blk_drew ?_ | refine blk_alloc ?_ _)); exact BK101.out) hb); have n18_ := Aside0.mk (blk_below (g := gb130) (o := .cells #[.int .i64 t122, .int .i64 t123, .int .i64 t124, .int .i64 t125, .int .i64 t126, .int .i64 t127, .int .i64 t128] 35 (0, 0)) (by (with_reducible repeat (first | refine blk_drewN ?_ _ | refine blk_drew ?_ | refine blk_alloc ?_ _)); refine blk_far ?_ NB130_159.out _; (with_reducible repeat (first | refine blk_drewN ?_ _ | refine blk_drew ?_ | refine blk_alloc ?_ _)); refine blk_far ?_ NB130_159.out _; (with_reducible repeat (first | refine blk_drewN ?_ _ | refine blk_drew ?_ | refine blk_alloc ?_ _)); refine blk_far ?_ NB130_159.out _; (with_reducible repeat (first | refine blk_drewN ?_ _ | refine blk_drew ?_ | refine blk_alloc ?_ _)); refine blk_far ?_ NB130_159.out _; (with_reducible repeat (first | refine blk_drewN ?_ _ | refine blk_drew ?_ | refine blk_alloc ?_ _)); refine blk_far ?_ NB130_159.out _; (with_reducible repeat (first | refine blk_drewN ?_ _ | refine blk_drew ?_ | refine blk_alloc ?_ _)); exact BK130.out) hb); have n19_ := Aside0.mk (blk_below (g := gb142) (o := .cells #[.int .i64 t134, .int .i64 t135, .int .i64 t136, .int .i64 t137, .int .i64 t138, .int .i64 t139, .int .i64 t140] 35 (0, 0)) (by (with_reducible repeat (first | refine blk_drewN ?_ _ | refine blk_drew ?_ | refine blk_alloc ?_ _)); refine blk_far ?_ NB142_159.out _; (with_reducible repeat (first | refine blk_drewN ?_ _ | refine blk_drew ?_ | refine blk_alloc ?_ _)); refine blk_far ?_ NB142_159.out _; (with_reducible repeat (first | refine blk_drewN ?_ _ | refine blk_drew ?_ | refine blk_alloc ?_ _)); refine blk_far ?_ NB142_159.out _; (with_reducible repeat (first | refine blk_drewN ?_ _ | refine blk_drew ?_ | refine blk_alloc ?_ _)); refine blk_far ?_ NB142_159.out _; (with_reducible repeat (first | refine blk_drewN ?_ _ | refine blk_drew ?_ | refine blk_alloc ?_ _)); refine blk_far ?_ NB142_159.out _; (with_reducible repeat (first | refine blk_drewN ?_ _ | refine blk_drew ?_ | refine blk_alloc ?_ _)); exact BK142.out) hb); have n20_ := Aside0.mk (blk_below (g := gb159) (o := .cells #[.slice Ao47 t143.length co47, .slice Ao52 t146.length co52, .slice Ao53 t149.length co53, .slice Ao54 t152.length co54, .slice Ao55 t155.length co55] 27 (0, 0)) (by (with_reducible repeat (first | refine blk_drewN ?_ _ | refine blk_drew ?_ | refine blk_alloc ?_ _)); refine blk_put (cs := #[.slice Ao47 t143.length co47, .slice Ao52 t146.length co52, .slice Ao53 t149.length co53, .slice Ao54 t152.length co54, .slice none 0 0]) ?_ 4 _ rfl; (with_reducible repeat (first | refine blk_drewN ?_ _ | refine blk_drew ?_ | refine blk_alloc ?_ _)); refine blk_put (cs := #[.slice Ao47 t143.length co47, .slice Ao52 t146.length co52, .slice Ao53 t149.length co53, .slice none 0 0, .slice none 0 0]) ?_ 3 _ rfl; (with_reducible repeat (first | refine blk_drewN ?_ _ | refine blk_drew ?_ | refine blk_alloc ?_ _)); refine blk_put (cs := #[.slice Ao47 t143.length co47, .slice Ao52 t146.length co52, .slice none 0 0, .slice none 0 0, .slice none 0 0]) ?_ 2 _ rfl; (with_reducible repeat (first | refine blk_drewN ?_ _ | refine blk_drew ?_ | refine blk_alloc ?_ _)); refine blk_put (cs := #[.slice Ao47 t143.length co47, .slice none 0 0, .slice none 0 0, .slice none 0 0, .slice none 0 0]) ?_ 1 _ rfl; (with_reducible repeat (first | refine blk_drewN ?_ _ | refine blk_drew ?_ | refine blk_alloc ?_ _)); refine blk_put (cs := #[.slice none 0 0, .slice none 0 0, .slice none 0 0, .slice none 0 0, .slice none 0 0]) ?_ 0 _ rfl; (with_reducible repeat (first | refine blk_drewN ?_ _ | refine blk_drew ?_ | refine blk_alloc ?_ _)); exact BK159.out) hb); have n21_ := Aside0.mk (below_step (by repeat (first | (with_reducible first | exact HB.out | apply below_alloc | apply pw_below_drewN | apply below_drew1 | refine below_set ?_ GE101.out | refine below_set ?_ GE130.out | refine below_set ?_ GE142.out | refine below_set ?_ GE159.out) | exact HB.out)) hb); clear HO105; clear HO108; clear HO111; clear HO114; clear HO117; clear HO121; clear HO133; clear HO145; clear HO148; clear HO151; clear HO154; clear HO157; clear BK101; clear BK130; clear BK142; clear BK159; clear HB; have HO105 := n0_; have HO108 := n1_; have HO111 := n2_; have HO114 := n3_; have HO117 := n4_; have HO121 := n5_; have HO133 := n6_; have HO145 := n7_; have HO148 := n8_; have HO151 := n9_; have HO154 := n10_; have HO157 := n11_; have HO162 := n12_; have HO165 := n13_; have HO168 := n14_; have HO171 := n15_; have HO174 := n16_; have BK101 := n17_; have BK130 := n18_; have BK142 := n19_; have BK159 := n20_; have HB := n21_; clear n0_ n1_ n2_ n3_ n4_ n5_ n6_ n7_ n8_ n9_ n10_ n11_ n12_ n13_ n14_ n15_ n16_ n17_ n18_ n19_ n20_ n21_; (try clear hb); (try clear hb2); (try clear hk); (try clear hi); (try clear ho0); (try clear ho1); (try clear ho2); (try clear ho3); (try clear ho4)) | ((with_reducible refine gate_dst (N := 14) rfl ?_); (try (refine gate_guard (by rfl) ?_; dsimp only)); refine box_event ?hg (N := 14) ?hd (cs := #[.slice none 0 0, .slice none 0 0, .slice none 0 0, .slice none 0 0, .slice none 0 0]) (t := 27) ?hr ?_; (case hd => rfl); (case hg => rfl); (case hr => first | (go_simp; done) | (go_simp; rfl)); intro gb176 hg w59 hbox hb; have n0_ := krb HO105 hb; have n1_ := krb HO108 hb; have n2_ := krb HO111 hb; have n3_ := krb HO114 hb; have n4_ := krb HO117 hb; have n5_ := krb HO121 hb; have n6_ := krb HO133 hb; have n7_ := krb HO145 hb; have n8_ := krb HO148 hb; have n9_ := krb HO151 hb; have n10_ := krb HO154 hb; have n11_ := krb HO157 hb; have n12_ := krb HO162 hb; have n13_ := krb HO165 hb; have n14_ := krb HO168 hb; have n15_ := krb HO171 hb; have n16_ := krb HO174 hb; have n17_ := kbb BK101 hb; have n18_ := kbb BK130 hb; have n19_ := kbb BK142 hb; have n20_ := kbb BK159 hb; have n21_ := Aside0.mk (below_step (by repeat (first | (with_reducible first | exact HB.out | apply below_alloc | apply pw_below_drewN | apply below_drew1 | refine below_set ?_ GE101.out | refine below_set ?_ GE130.out | refine below_set ?_ GE142.out | refine below_set ?_ GE159.out) | exact HB.out)) hb); have n22_ := Aside0.mk (hbox); have n23_ := Aside0.mk ((by rw [hg]; exact (below_size (by repeat (first | (with_reducible first | exact HB.out | apply below_alloc | apply pw_below_drewN | apply below_drew1 | refine below_set ?_ GE101.out | refine below_set ?_ GE130.out | refine below_set ?_ GE142.out | refine below_set ?_ GE159.out) | exact HB.out))) : w.heap.size ≤ gb176)); have n24_ := Aside0.mk ((by rw [hg]; exact (below_size (by repeat (first | (with_reducible first | exact HB.out | apply below_alloc | apply pw_below_drewN | apply below_drew1 | refine below_set ?_ GE101.out | refine below_set ?_ GE130.out | refine below_set ?_ GE142.out | refine below_set ?_ GE159.out) | exact HB.out))) : w.heap.size ≤ gb176)); have n25_ := Aside0.mk ((by rw [hg]; exact Nat.ne_of_lt (blk_lt (g := gb101) (o := .cells #[.slice Ao25 t103.length co25, .slice Ao27 t106.length co27, .slice Ao28 t109.length co28, .slice Ao29 t112.length co29, .slice Ao30 t115.length co30] 27 (0, 0)) (kb BK101)) : gb101 ≠ gb176)); have n26_ := Aside0.mk ((by rw [hg]; exact Nat.ne_of_gt (blk_lt (g := gb101) (o := .cells #[.slice Ao25 t103.length co25, .slice Ao27 t106.length co27, .slice Ao28 t109.length co28, .slice Ao29 t112.length co29, .slice Ao30 t115.length co30] 27 (0, 0)) (kb BK101)) : gb176 ≠ gb101)); have n27_ := Aside0.mk ((by rw [hg]; exact Nat.ne_of_lt (blk_lt (g := gb130) (o := .cells #[.int .i64 t122, .int .i64 t123, .int .i64 t124, .int .i64 t125, .int .i64 t126, .int .i64 t127, .int .i64 t128] 35 (0, 0)) (kb BK130)) : gb130 ≠ gb176)); have n28_ := Aside0.mk ((by rw [hg]; exact Nat.ne_of_gt (blk_lt (g := gb130) (o := .cells #[.int .i64 t122, .int .i64 t123, .int .i64 t124, .int .i64 t125, .int .i64 t126, .int .i64 t127, .int .i64 t128] 35 (0, 0)) (kb BK130)) : gb176 ≠ gb130)); have n29_ := Aside0.mk ((by rw [hg]; exact Nat.ne_of_lt (blk_lt (g := gb142) (o := .cells #[.int .i64 t134, .int .i64 t135, .int .i64 t136, .int .i64 t137, .int .i64 t138, .int .i64 t139, .int .i64 t140] 35 (0, 0)) (kb BK142)) : gb142 ≠ gb176)); have n30_ := Aside0.mk ((by rw [hg]; exact Nat.ne_of_gt (blk_lt (g := gb142) (o := .cells #[.int .i64 t134, .int .i64 t135, .int .i64 t136, .int .i64 t137, .int .i64 t138, .int .i64 t139, .int .i64 t140] 35 (0, 0)) (kb BK142)) : gb176 ≠ gb142)); have n31_ := Aside0.mk ((by rw [hg]; exact Nat.ne_of_lt (blk_lt (g := gb159) (o := .cells #[.slice Ao47 t143.length co47, .slice Ao52 t146.length co52, .slice Ao53 t149.length co53, .slice Ao54 t152.length co54, .slice Ao55 t155.length co55] 27 (0, 0)) (kb BK159)) : gb159 ≠ gb176)); have n32_ := Aside0.mk ((by rw [hg]; exact Nat.ne_of_gt (blk_lt (g := gb159) (o := .cells #[.slice Ao47 t143.length co47, .slice Ao52 t146.length co52, .slice Ao53 t149.length co53, .slice Ao54 t152.length co54, .slice Ao55 t155.length co55] 27 (0, 0)) (kb BK159)) : gb176 ≠ gb159)); clear HO105; clear HO108; clear HO111; clear HO114; clear HO117; clear HO121; clear HO133; clear HO145; clear HO148; clear HO151; clear HO154; clear HO157; clear HO162; clear HO165; clear HO168; clear HO171; clear HO174; clear BK101; clear BK130; clear BK142; clear BK159; clear HB; have HO105 := n0_; have HO108 := n1_; have HO111 := n2_; have HO114 := n3_; have HO117 := n4_; have HO121 := n5_; have HO133 := n6_; have HO145 := n7_; have HO148 := n8_; have HO151 := n9_; have HO154 := n10_; have HO157 := n11_; have HO162 := n12_; have HO165 := n13_; have HO168 := n14_; have HO171 := n15_; have HO174 := n16_; have BK101 := n17_; have BK130 := n18_; have BK142 := n19_; have BK159 := n20_; have HB := n21_; have BK176 := n22_; have GW176 := n23_; have GE176 := n24_; have NB101_176 := n25_; have NB176_101 := n26_; have NB130_176 := n27_; have NB176_130 := n28_; have NB142_176 := n29_; have NB176_142 := n30_; have NB159_176 := n31_; have NB176_159 := n32_; clear n0_ n1_ n2_ n3_ n4_ n5_ n6_ n7_ n8_ n9_ n10_ n11_ n12_ n13_ n14_ n15_ n16_ n17_ n18_ n19_ n20_ n21_ n22_ n23_ n24_ n25_ n26_ n27_ n28_ n29_ n30_ n31_ n32_; clear hb hbox hg; obtain ⟨Ao60, co60, eo60⟩ := Kd.R_slice HO162.out; subst eo60; have hnb61 := NB176_101.out; have hnc61 := NB101_176.out; have hnb62 := NB176_130.out; have hnc62 := NB130_176.out; have hnb63 := NB176_142.out; have hnc63 := NB142_176.out; have hnb64 := NB176_159.out; have hnc64 := NB159_176.out; have hcz65_0 := kc BK176 0 rfl; have hcz65_1 := kc BK176 1 rfl; have hcz65_2 := kc BK176 2 rfl; have hcz65_3 := kc BK176 3 rfl; have hcz65_4 := kc BK176 4 rfl; have hfz65_0 := blk_frozen BK176.out 0; have hfz65_1 := blk_frozen BK176.out 1; have hfz65_2 := blk_frozen BK176.out 2; have hfz65_3 := blk_frozen BK176.out 3; have hfz65_4 := blk_frozen BK176.out 4; obtain ⟨Ao66, co66, eo66⟩ := Kd.R_slice HO165.out; subst eo66; obtain ⟨Ao67, co67, eo67⟩ := Kd.R_slice HO168.out; subst eo67; obtain ⟨Ao68, co68, eo68⟩ := Kd.R_slice HO171.out; subst eo68; obtain ⟨Ao69, co69, eo69⟩ := Kd.R_slice HO174.out; subst eo69))
         have n0_ : Aside0 (Kd.R k56 56 (((((w59.setCell ⟨gb176, 0, none⟩ (.slice Ao60 t160.length co60)).setCell ⟨gb176, 1, none⟩ (.slice Ao66 t163.length co66)).setCell ⟨gb176, 2, none⟩ (.slice Ao67 t166.length co67)).setCell ⟨gb176, 3, none⟩ (.slice Ao68 t169.length co68)).setCell ⟨gb176, 4, none⟩ (.slice Ao69 t172.length co69)) w.heap.size (fun k_ => some k_ ≠ (.slice Ao47 t143.length co47 : Value).ownBlock ∧ some k_ ≠ (.slice Ao60 t160.length co60 : Value).ownBlock) (.slice Ao25 t103.length co25) t103) := ⟨by (with_reducible repeat (first | apply Kd.R_alloc | apply Kd.R_drewN | apply Kd.R_drew)); exact Kd.R_mono (Kd.R_far (p := ⟨gb176, 4, none⟩) (Kd.R_far (p := ⟨gb176, 3, none⟩) (Kd.R_far (p := ⟨gb176, 2, none⟩) (Kd.R_far (p := ⟨gb176, 1, none⟩) (Kd.R_far (p := ⟨gb176, 0, none⟩) (Kd.R_types HO105.out BK176.out (by decide)) (fun _ hk => hk.2) (.slice Ao60 t160.length co60)) (fun _ hk => hk.2) (.slice Ao66 t163.length co66)) (fun _ hk => hk.2) (.slice Ao67 t166.length co67)) (fun _ hk => hk.2) (.slice Ao68 t169.length co68)) (fun _ hk => hk.2) (.slice Ao69 t172.length co69)) (fun _ hk => ⟨hk.1.1.2, hk.1.2⟩)⟩
         have n1_ : Aside0 (Kd.R k54 54 (((((w59.setCell ⟨gb176, 0, none⟩ (.slice Ao60 t160.length co60)).setCell ⟨gb176, 1, none⟩ (.slice Ao66 t163.length co66)).setCell ⟨gb176, 2, none⟩ (.slice Ao67 t166.length co67)).setCell ⟨gb176, 3, none⟩ (.slice Ao68 t169.length co68)).setCell ⟨gb176, 4, none⟩ (.slice Ao69 t172.length co69)) w.heap.size (fun k_ => some k_ ≠ (.slice Ao52 t146.length co52 : Value).ownBlock ∧ some k_ ≠ (.slice Ao66 t163.length co66 : Value).ownBlock) (.slice Ao27 t106.length co27) t106) := ⟨by (with_reducible repeat (first | apply Kd.R_alloc | apply Kd.R_drewN | apply Kd.R_drew)); exact Kd.R_mono (Kd.R_far (p := ⟨gb176, 4, none⟩) (Kd.R_far (p := ⟨gb176, 3, none⟩) (Kd.R_far (p := ⟨gb176, 2, none⟩) (Kd.R_far (p := ⟨gb176, 1, none⟩) (Kd.R_far (p := ⟨gb176, 0, none⟩) (Kd.R_types HO108.out BK176.out (by decide)) (fun _ hk => hk.2) (.slice Ao60 t160.length co60)) (fun _ hk => hk.2) (.slice Ao66 t163.length co66)) (fun _ hk => hk.2) (.slice Ao67 t166.length co67)) (fun _ hk => hk.2) (.slice Ao68 t169.length co68)) (fun _ hk => hk.2) (.slice Ao69 t172.length co69)) (fun _ hk => ⟨hk.1.1.2, hk.1.2⟩)⟩
         have n2_ : Aside0 (Kd.R k67 67 (((((w59.setCell ⟨gb176, 0, none⟩ (.slice Ao60 t160.length co60)).setCell ⟨gb176, 1, none⟩ (.slice Ao66 t163.length co66)).setCell ⟨gb176, 2, none⟩ (.slice Ao67 t166.length co67)).setCell ⟨gb176, 3, none⟩ (.slice Ao68 t169.length co68)).setCell ⟨gb176, 4, none⟩ (.slice Ao69 t172.length co69)) w.heap.size (fun k_ => some k_ ≠ (.slice Ao53 t149.length co53 : Value).ownBlock ∧ some k_ ≠ (.slice Ao67 t166.length co67 : Value).ownBlock) (.slice Ao28 t109.length co28) t109) := ⟨by (with_reducible repeat (first | apply Kd.R_alloc | apply Kd.R_drewN | apply Kd.R_drew)); exact Kd.R_mono (Kd.R_far (p := ⟨gb176, 4, none⟩) (Kd.R_far (p := ⟨gb176, 3, none⟩) (Kd.R_far (p := ⟨gb176, 2, none⟩) (Kd.R_far (p := ⟨gb176, 1, none⟩) (Kd.R_far (p := ⟨gb176, 0, none⟩) (Kd.R_types HO111.out BK176.out (by decide)) (fun _ hk => hk.2) (.slice Ao60 t160.length co60)) (fun _ hk => hk.2) (.slice Ao66 t163.length co66)) (fun _ hk => hk.2) (.slice Ao67 t166.length co67)) (fun _ hk => hk.2) (.slice Ao68 t169.length co68)) (fun _ hk => hk.2) (.slice Ao69 t172.length co69)) (fun _ hk => ⟨hk.1.1.2, hk.1.2⟩)⟩
         have n3_ : Aside0 (Kd.R Kd.bool 4 (((((w59.setCell ⟨gb176, 0, none⟩ (.slice Ao60 t160.length co60)).setCell ⟨gb176, 1, none⟩ (.slice Ao66 t163.length co66)).setCell ⟨gb176, 2, none⟩ (.slice Ao67 t166.length co67)).setCell ⟨gb176, 3, none⟩ (.slice Ao68 t169.length co68)).setCell ⟨gb176, 4, none⟩ (.slice Ao69 t172.length co69)) w.heap.size (fun k_ => some k_ ≠ (.slice Ao30 t115.length co30 : Value).ownBlock ∧ some k_ ≠ (.slice Ao54 t152.length co54 : Value).ownBlock ∧ some k_ ≠ (.slice Ao55 t155.length co55 : Value).ownBlock ∧ some k_ ≠ (.slice Ao68 t169.length co68 : Value).ownBlock ∧ some k_ ≠ (.slice Ao69 t172.length co69 : Value).ownBlock) (.slice Ao29 t112.length co29) t112) := ⟨by (with_reducible repeat (first | apply Kd.R_alloc | apply Kd.R_drewN | apply Kd.R_drew)); exact Kd.R_mono (Kd.R_far (p := ⟨gb176, 4, none⟩) (Kd.R_far (p := ⟨gb176, 3, none⟩) (Kd.R_far (p := ⟨gb176, 2, none⟩) (Kd.R_far (p := ⟨gb176, 1, none⟩) (Kd.R_far (p := ⟨gb176, 0, none⟩) (Kd.R_types HO114.out BK176.out (by decide)) (fun _ hk => hk.2) (.slice Ao60 t160.length co60)) (fun _ hk => hk.2) (.slice Ao66 t163.length co66)) (fun _ hk => hk.2) (.slice Ao67 t166.length co67)) (fun _ hk => hk.2) (.slice Ao68 t169.length co68)) (fun _ hk => hk.2) (.slice Ao69 t172.length co69)) (fun _ hk => ⟨hk.1.1.1.1.1, ⟨hk.1.1.1.1.2, ⟨hk.1.1.1.2, ⟨hk.1.1.2, hk.1.2⟩⟩⟩⟩)⟩
         have n4_ : Aside0 (Kd.R Kd.bool 4 (((((w59.setCell ⟨gb176, 0, none⟩ (.slice Ao60 t160.length co60)).setCell ⟨gb176, 1, none⟩ (.slice Ao66 t163.length co66)).setCell ⟨gb176, 2, none⟩ (.slice Ao67 t166.length co67)).setCell ⟨gb176, 3, none⟩ (.slice Ao68 t169.length co68)).setCell ⟨gb176, 4, none⟩ (.slice Ao69 t172.length co69)) w.heap.size (fun k_ => some k_ ≠ (.slice Ao29 t112.length co29 : Value).ownBlock ∧ some k_ ≠ (.slice Ao54 t152.length co54 : Value).ownBlock ∧ some k_ ≠ (.slice Ao55 t155.length co55 : Value).ownBlock ∧ some k_ ≠ (.slice Ao68 t169.length co68 : Value).ownBlock ∧ some k_ ≠ (.slice Ao69 t172.length co69 : Value).ownBlock) (.slice Ao30 t115.length co30) t115) := ⟨by (with_reducible repeat (first | apply Kd.R_alloc | apply Kd.R_drewN | apply Kd.R_drew)); exact Kd.R_mono (Kd.R_far (p := ⟨gb176, 4, none⟩) (Kd.R_far (p := ⟨gb176, 3, none⟩) (Kd.R_far (p := ⟨gb176, 2, none⟩) (Kd.R_far (p := ⟨gb176, 1, none⟩) (Kd.R_far (p := ⟨gb176, 0, none⟩) (Kd.R_types HO117.out BK176.out (by decide)) (fun _ hk => hk.2) (.slice Ao60 t160.length co60)) (fun _ hk => hk.2) (.slice Ao66 t163.length co66)) (fun _ hk => hk.2) (.slice Ao67 t166.length co67)) (fun _ hk => hk.2) (.slice Ao68 t169.length co68)) (fun _ hk => hk.2) (.slice Ao69 t172.length co69)) (fun _ hk => ⟨hk.1.1.1.1.1, ⟨hk.1.1.1.1.2, ⟨hk.1.1.1.2, ⟨hk.1.1.2, hk.1.2⟩⟩⟩⟩)⟩
         have n5_ : Aside0 (Kd.R (Kd.int .u8) 5 (((((w59.setCell ⟨gb176, 0, none⟩ (.slice Ao60 t160.length co60)).setCell ⟨gb176, 1, none⟩ (.slice Ao66 t163.length co66)).setCell ⟨gb176, 2, none⟩ (.slice Ao67 t166.length co67)).setCell ⟨gb176, 3, none⟩ (.slice Ao68 t169.length co68)).setCell ⟨gb176, 4, none⟩ (.slice Ao69 t172.length co69)) w.heap.size (fun k_ => some k_ ≠ (.slice Ao57 t131.length co57 : Value).ownBlock) (.slice Ao44 t119.length co44) t119) := ⟨by (with_reducible repeat (first | apply Kd.R_alloc | apply Kd.R_drewN | apply Kd.R_drew)); exact Kd.R_mono (Kd.R_far (p := ⟨gb176, 4, none⟩) (Kd.R_far (p := ⟨gb176, 3, none⟩) (Kd.R_far (p := ⟨gb176, 2, none⟩) (Kd.R_far (p := ⟨gb176, 1, none⟩) (Kd.R_far (p := ⟨gb176, 0, none⟩) (Kd.R_types HO121.out BK176.out (by decide)) (fun _ hk => hk.2) (.slice Ao60 t160.length co60)) (fun _ hk => hk.2) (.slice Ao66 t163.length co66)) (fun _ hk => hk.2) (.slice Ao67 t166.length co67)) (fun _ hk => hk.2) (.slice Ao68 t169.length co68)) (fun _ hk => hk.2) (.slice Ao69 t172.length co69)) (fun _ hk => hk.1.2)⟩
         have n6_ : Aside0 (Kd.R (Kd.int .u8) 5 (((((w59.setCell ⟨gb176, 0, none⟩ (.slice Ao60 t160.length co60)).setCell ⟨gb176, 1, none⟩ (.slice Ao66 t163.length co66)).setCell ⟨gb176, 2, none⟩ (.slice Ao67 t166.length co67)).setCell ⟨gb176, 3, none⟩ (.slice Ao68 t169.length co68)).setCell ⟨gb176, 4, none⟩ (.slice Ao69 t172.length co69)) w.heap.size (fun k_ => some k_ ≠ (.slice Ao44 t119.length co44 : Value).ownBlock) (.slice Ao57 t131.length co57) t131) := ⟨by (with_reducible repeat (first | apply Kd.R_alloc | apply Kd.R_drewN | apply Kd.R_drew)); exact Kd.R_mono (Kd.R_far (p := ⟨gb176, 4, none⟩) (Kd.R_far (p := ⟨gb176, 3, none⟩) (Kd.R_far (p := ⟨gb176, 2, none⟩) (Kd.R_far (p := ⟨gb176, 1, none⟩) (Kd.R_far (p := ⟨gb176, 0, none⟩) (Kd.R_types HO133.out BK176.out (by decide)) (fun _ hk => hk.2) (.slice Ao60 t160.length co60)) (fun _ hk => hk.2) (.slice Ao66 t163.length co66)) (fun _ hk => hk.2) (.slice Ao67 t166.length co67)) (fun _ hk => hk.2) (.slice Ao68 t169.length co68)) (fun _ hk => hk.2) (.slice Ao69 t172.length co69)) (fun _ hk => hk.1.2)⟩
         have n7_ : Aside0 (Kd.R k56 56 (((((w59.setCell ⟨gb176, 0, none⟩ (.slice Ao60 t160.length co60)).setCell ⟨gb176, 1, none⟩ (.slice Ao66 t163.length co66)).setCell ⟨gb176, 2, none⟩ (.slice Ao67 t166.length co67)).setCell ⟨gb176, 3, none⟩ (.slice Ao68 t169.length co68)).setCell ⟨gb176, 4, none⟩ (.slice Ao69 t172.length co69)) w.heap.size (fun k_ => some k_ ≠ (.slice Ao25 t103.length co25 : Value).ownBlock ∧ some k_ ≠ (.slice Ao60 t160.length co60 : Value).ownBlock) (.slice Ao47 t143.length co47) t143) := ⟨by (with_reducible repeat (first | apply Kd.R_alloc | apply Kd.R_drewN | apply Kd.R_drew)); exact Kd.R_mono (Kd.R_far (p := ⟨gb176, 4, none⟩) (Kd.R_far (p := ⟨gb176, 3, none⟩) (Kd.R_far (p := ⟨gb176, 2, none⟩) (Kd.R_far (p := ⟨gb176, 1, none⟩) (Kd.R_far (p := ⟨gb176, 0, none⟩) (Kd.R_types HO145.out BK176.out (by decide)) (fun _ hk => hk.2) (.slice Ao60 t160.length co60)) (fun _ hk => hk.2) (.slice Ao66 t163.length co66)) (fun _ hk => hk.2) (.slice Ao67 t166.length co67)) (fun _ hk => hk.2) (.slice Ao68 t169.length co68)) (fun _ hk => hk.2) (.slice Ao69 t172.length co69)) (fun _ hk => ⟨hk.1.1.2, hk.1.2⟩)⟩
         have n8_ : Aside0 (Kd.R k54 54 (((((w59.setCell ⟨gb176, 0, none⟩ (.slice Ao60 t160.length co60)).setCell ⟨gb176, 1, none⟩ (.slice Ao66 t163.length co66)).setCell ⟨gb176, 2, none⟩ (.slice Ao67 t166.length co67)).setCell ⟨gb176, 3, none⟩ (.slice Ao68 t169.length co68)).setCell ⟨gb176, 4, none⟩ (.slice Ao69 t172.length co69)) w.heap.size (fun k_ => some k_ ≠ (.slice Ao27 t106.length co27 : Value).ownBlock ∧ some k_ ≠ (.slice Ao66 t163.length co66 : Value).ownBlock) (.slice Ao52 t146.length co52) t146) := ⟨by (with_reducible repeat (first | apply Kd.R_alloc | apply Kd.R_drewN | apply Kd.R_drew)); exact Kd.R_mono (Kd.R_far (p := ⟨gb176, 4, none⟩) (Kd.R_far (p := ⟨gb176, 3, none⟩) (Kd.R_far (p := ⟨gb176, 2, none⟩) (Kd.R_far (p := ⟨gb176, 1, none⟩) (Kd.R_far (p := ⟨gb176, 0, none⟩) (Kd.R_types HO148.out BK176.out (by decide)) (fun _ hk => hk.2) (.slice Ao60 t160.length co60)) (fun _ hk => hk.2) (.slice Ao66 t163.length co66)) (fun _ hk => hk.2) (.slice Ao67 t166.length co67)) (fun _ hk => hk.2) (.slice Ao68 t169.length co68)) (fun _ hk => hk.2) (.slice Ao69 t172.length co69)) (fun _ hk => ⟨hk.1.1.2, hk.1.2⟩)⟩
         have n9_ : Aside0 (Kd.R k67 67 (((((w59.setCell ⟨gb176, 0, none⟩ (.slice Ao60 t160.length co60)).setCell ⟨gb176, 1, none⟩ (.slice Ao66 t163.length co66)).setCell ⟨gb176, 2, none⟩ (.slice Ao67 t166.length co67)).setCell ⟨gb176, 3, none⟩ (.slice Ao68 t169.length co68)).setCell ⟨gb176, 4, none⟩ (.slice Ao69 t172.length co69)) w.heap.size (fun k_ => some k_ ≠ (.slice Ao28 t109.length co28 : Value).ownBlock ∧ some k_ ≠ (.slice Ao67 t166.length co67 : Value).ownBlock) (.slice Ao53 t149.length co53) t149) := ⟨by (with_reducible repeat (first | apply Kd.R_alloc | apply Kd.R_drewN | apply Kd.R_drew)); exact Kd.R_mono (Kd.R_far (p := ⟨gb176, 4, none⟩) (Kd.R_far (p := ⟨gb176, 3, none⟩) (Kd.R_far (p := ⟨gb176, 2, none⟩) (Kd.R_far (p := ⟨gb176, 1, none⟩) (Kd.R_far (p := ⟨gb176, 0, none⟩) (Kd.R_types HO151.out BK176.out (by decide)) (fun _ hk => hk.2) (.slice Ao60 t160.length co60)) (fun _ hk => hk.2) (.slice Ao66 t163.length co66)) (fun _ hk => hk.2) (.slice Ao67 t166.length co67)) (fun _ hk => hk.2) (.slice Ao68 t169.length co68)) (fun _ hk => hk.2) (.slice Ao69 t172.length co69)) (fun _ hk => ⟨hk.1.1.2, hk.1.2⟩)⟩
         have n10_ : Aside0 (Kd.R Kd.bool 4 (((((w59.setCell ⟨gb176, 0, none⟩ (.slice Ao60 t160.length co60)).setCell ⟨gb176, 1, none⟩ (.slice Ao66 t163.length co66)).setCell ⟨gb176, 2, none⟩ (.slice Ao67 t166.length co67)).setCell ⟨gb176, 3, none⟩ (.slice Ao68 t169.length co68)).setCell ⟨gb176, 4, none⟩ (.slice Ao69 t172.length co69)) w.heap.size (fun k_ => some k_ ≠ (.slice Ao29 t112.length co29 : Value).ownBlock ∧ some k_ ≠ (.slice Ao30 t115.length co30 : Value).ownBlock ∧ some k_ ≠ (.slice Ao55 t155.length co55 : Value).ownBlock ∧ some k_ ≠ (.slice Ao68 t169.length co68 : Value).ownBlock ∧ some k_ ≠ (.slice Ao69 t172.length co69 : Value).ownBlock) (.slice Ao54 t152.length co54) t152) := ⟨by (with_reducible repeat (first | apply Kd.R_alloc | apply Kd.R_drewN | apply Kd.R_drew)); exact Kd.R_mono (Kd.R_far (p := ⟨gb176, 4, none⟩) (Kd.R_far (p := ⟨gb176, 3, none⟩) (Kd.R_far (p := ⟨gb176, 2, none⟩) (Kd.R_far (p := ⟨gb176, 1, none⟩) (Kd.R_far (p := ⟨gb176, 0, none⟩) (Kd.R_types HO154.out BK176.out (by decide)) (fun _ hk => hk.2) (.slice Ao60 t160.length co60)) (fun _ hk => hk.2) (.slice Ao66 t163.length co66)) (fun _ hk => hk.2) (.slice Ao67 t166.length co67)) (fun _ hk => hk.2) (.slice Ao68 t169.length co68)) (fun _ hk => hk.2) (.slice Ao69 t172.length co69)) (fun _ hk => ⟨hk.1.1.1.1.2, ⟨hk.1.1.1.2, ⟨hk.1.1.1.1.1, ⟨hk.1.1.2, hk.1.2⟩⟩⟩⟩)⟩
         have n11_ : Aside0 (Kd.R Kd.bool 4 (((((w59.setCell ⟨gb176, 0, none⟩ (.slice Ao60 t160.length co60)).setCell ⟨gb176, 1, none⟩ (.slice Ao66 t163.length co66)).setCell ⟨gb176, 2, none⟩ (.slice Ao67 t166.length co67)).setCell ⟨gb176, 3, none⟩ (.slice Ao68 t169.length co68)).setCell ⟨gb176, 4, none⟩ (.slice Ao69 t172.length co69)) w.heap.size (fun k_ => some k_ ≠ (.slice Ao29 t112.length co29 : Value).ownBlock ∧ some k_ ≠ (.slice Ao30 t115.length co30 : Value).ownBlock ∧ some k_ ≠ (.slice Ao54 t152.length co54 : Value).ownBlock ∧ some k_ ≠ (.slice Ao68 t169.length co68 : Value).ownBlock ∧ some k_ ≠ (.slice Ao69 t172.length co69 : Value).ownBlock) (.slice Ao55 t155.length co55) t155) := ⟨by (with_reducible repeat (first | apply Kd.R_alloc | apply Kd.R_drewN | apply Kd.R_drew)); exact Kd.R_mono (Kd.R_far (p := ⟨gb176, 4, none⟩) (Kd.R_far (p := ⟨gb176, 3, none⟩) (Kd.R_far (p := ⟨gb176, 2, none⟩) (Kd.R_far (p := ⟨gb176, 1, none⟩) (Kd.R_far (p := ⟨gb176, 0, none⟩) (Kd.R_types HO157.out BK176.out (by decide)) (fun _ hk => hk.2) (.slice Ao60 t160.length co60)) (fun _ hk => hk.2) (.slice Ao66 t163.length co66)) (fun _ hk => hk.2) (.slice Ao67 t166.length co67)) (fun _ hk => hk.2) (.slice Ao68 t169.length co68)) (fun _ hk => hk.2) (.slice Ao69 t172.length co69)) (fun _ hk => ⟨hk.1.1.1.1.2, ⟨hk.1.1.1.2, ⟨hk.1.1.1.1.1, ⟨hk.1.1.2, hk.1.2⟩⟩⟩⟩)⟩
         have n12_ : Aside0 (Kd.R k56 56 (((((w59.setCell ⟨gb176, 0, none⟩ (.slice Ao60 t160.length co60)).setCell ⟨gb176, 1, none⟩ (.slice Ao66 t163.length co66)).setCell ⟨gb176, 2, none⟩ (.slice Ao67 t166.length co67)).setCell ⟨gb176, 3, none⟩ (.slice Ao68 t169.length co68)).setCell ⟨gb176, 4, none⟩ (.slice Ao69 t172.length co69)) w.heap.size (fun k_ => some k_ ≠ (.slice Ao25 t103.length co25 : Value).ownBlock ∧ some k_ ≠ (.slice Ao47 t143.length co47 : Value).ownBlock) (.slice Ao60 t160.length co60) t160) := ⟨by (with_reducible repeat (first | apply Kd.R_alloc | apply Kd.R_drewN | apply Kd.R_drew)); exact Kd.R_mono (Kd.R_far (p := ⟨gb176, 4, none⟩) (Kd.R_far (p := ⟨gb176, 3, none⟩) (Kd.R_far (p := ⟨gb176, 2, none⟩) (Kd.R_far (p := ⟨gb176, 1, none⟩) (Kd.R_far (p := ⟨gb176, 0, none⟩) (Kd.R_types HO162.out BK176.out (by decide)) (fun _ hk => hk.2) (.slice Ao60 t160.length co60)) (fun _ hk => hk.2) (.slice Ao66 t163.length co66)) (fun _ hk => hk.2) (.slice Ao67 t166.length co67)) (fun _ hk => hk.2) (.slice Ao68 t169.length co68)) (fun _ hk => hk.2) (.slice Ao69 t172.length co69)) (fun _ hk => ⟨hk.1.1.2, hk.1.2⟩)⟩
         have n13_ : Aside0 (Kd.R k54 54 (((((w59.setCell ⟨gb176, 0, none⟩ (.slice Ao60 t160.length co60)).setCell ⟨gb176, 1, none⟩ (.slice Ao66 t163.length co66)).setCell ⟨gb176, 2, none⟩ (.slice Ao67 t166.length co67)).setCell ⟨gb176, 3, none⟩ (.slice Ao68 t169.length co68)).setCell ⟨gb176, 4, none⟩ (.slice Ao69 t172.length co69)) w.heap.size (fun k_ => some k_ ≠ (.slice Ao27 t106.length co27 : Value).ownBlock ∧ some k_ ≠ (.slice Ao52 t146.length co52 : Value).ownBlock) (.slice Ao66 t163.length co66) t163) := ⟨by (with_reducible repeat (first | apply Kd.R_alloc | apply Kd.R_drewN | apply Kd.R_drew)); exact Kd.R_mono (Kd.R_far (p := ⟨gb176, 4, none⟩) (Kd.R_far (p := ⟨gb176, 3, none⟩) (Kd.R_far (p := ⟨gb176, 2, none⟩) (Kd.R_far (p := ⟨gb176, 1, none⟩) (Kd.R_far (p := ⟨gb176, 0, none⟩) (Kd.R_types HO165.out BK176.out (by decide)) (fun _ hk => hk.2) (.slice Ao60 t160.length co60)) (fun _ hk => hk.2) (.slice Ao66 t163.length co66)) (fun _ hk => hk.2) (.slice Ao67 t166.length co67)) (fun _ hk => hk.2) (.slice Ao68 t169.length co68)) (fun _ hk => hk.2) (.slice Ao69 t172.length co69)) (fun _ hk => ⟨hk.1.1.2, hk.1.2⟩)⟩
         have n14_ : Aside0 (Kd.R k67 67 (((((w59.setCell ⟨gb176, 0, none⟩ (.slice Ao60 t160.length co60)).setCell ⟨gb176, 1, none⟩ (.slice Ao66 t163.length co66)).setCell ⟨gb176, 2, none⟩ (.slice Ao67 t166.length co67)).setCell ⟨gb176, 3, none⟩ (.slice Ao68 t169.length co68)).setCell ⟨gb176, 4, none⟩ (.slice Ao69 t172.length co69)) w.heap.size (fun k_ => some k_ ≠ (.slice Ao28 t109.length co28 : Value).ownBlock ∧ some k_ ≠ (.slice Ao53 t149.length co53 : Value).ownBlock) (.slice Ao67 t166.length co67) t166) := ⟨by (with_reducible repeat (first | apply Kd.R_alloc | apply Kd.R_drewN | apply Kd.R_drew)); exact Kd.R_mono (Kd.R_far (p := ⟨gb176, 4, none⟩) (Kd.R_far (p := ⟨gb176, 3, none⟩) (Kd.R_far (p := ⟨gb176, 2, none⟩) (Kd.R_far (p := ⟨gb176, 1, none⟩) (Kd.R_far (p := ⟨gb176, 0, none⟩) (Kd.R_types HO168.out BK176.out (by decide)) (fun _ hk => hk.2) (.slice Ao60 t160.length co60)) (fun _ hk => hk.2) (.slice Ao66 t163.length co66)) (fun _ hk => hk.2) (.slice Ao67 t166.length co67)) (fun _ hk => hk.2) (.slice Ao68 t169.length co68)) (fun _ hk => hk.2) (.slice Ao69 t172.length co69)) (fun _ hk => ⟨hk.1.1.2, hk.1.2⟩)⟩
         have n15_ : Aside0 (Kd.R Kd.bool 4 (((((w59.setCell ⟨gb176, 0, none⟩ (.slice Ao60 t160.length co60)).setCell ⟨gb176, 1, none⟩ (.slice Ao66 t163.length co66)).setCell ⟨gb176, 2, none⟩ (.slice Ao67 t166.length co67)).setCell ⟨gb176, 3, none⟩ (.slice Ao68 t169.length co68)).setCell ⟨gb176, 4, none⟩ (.slice Ao69 t172.length co69)) w.heap.size (fun k_ => some k_ ≠ (.slice Ao29 t112.length co29 : Value).ownBlock ∧ some k_ ≠ (.slice Ao30 t115.length co30 : Value).ownBlock ∧ some k_ ≠ (.slice Ao54 t152.length co54 : Value).ownBlock ∧ some k_ ≠ (.slice Ao55 t155.length co55 : Value).ownBlock ∧ some k_ ≠ (.slice Ao69 t172.length co69 : Value).ownBlock) (.slice Ao68 t169.length co68) t169) := ⟨by (with_reducible repeat (first | apply Kd.R_alloc | apply Kd.R_drewN | apply Kd.R_drew)); exact Kd.R_mono (Kd.R_far (p := ⟨gb176, 4, none⟩) (Kd.R_far (p := ⟨gb176, 3, none⟩) (Kd.R_far (p := ⟨gb176, 2, none⟩) (Kd.R_far (p := ⟨gb176, 1, none⟩) (Kd.R_far (p := ⟨gb176, 0, none⟩) (Kd.R_types HO171.out BK176.out (by decide)) (fun _ hk => hk.2) (.slice Ao60 t160.length co60)) (fun _ hk => hk.2) (.slice Ao66 t163.length co66)) (fun _ hk => hk.2) (.slice Ao67 t166.length co67)) (fun _ hk => hk.2) (.slice Ao68 t169.length co68)) (fun _ hk => hk.2) (.slice Ao69 t172.length co69)) (fun _ hk => ⟨hk.1.1.1.1.2, ⟨hk.1.1.1.2, ⟨hk.1.1.2, ⟨hk.1.2, hk.1.1.1.1.1⟩⟩⟩⟩)⟩
         have n16_ : Aside0 (Kd.R Kd.bool 4 (((((w59.setCell ⟨gb176, 0, none⟩ (.slice Ao60 t160.length co60)).setCell ⟨gb176, 1, none⟩ (.slice Ao66 t163.length co66)).setCell ⟨gb176, 2, none⟩ (.slice Ao67 t166.length co67)).setCell ⟨gb176, 3, none⟩ (.slice Ao68 t169.length co68)).setCell ⟨gb176, 4, none⟩ (.slice Ao69 t172.length co69)) w.heap.size (fun k_ => some k_ ≠ (.slice Ao29 t112.length co29 : Value).ownBlock ∧ some k_ ≠ (.slice Ao30 t115.length co30 : Value).ownBlock ∧ some k_ ≠ (.slice Ao54 t152.length co54 : Value).ownBlock ∧ some k_ ≠ (.slice Ao55 t155.length co55 : Value).ownBlock ∧ some k_ ≠ (.slice Ao68 t169.length co68 : Value).ownBlock) (.slice Ao69 t172.length co69) t172) := ⟨by (with_reducible repeat (first | apply Kd.R_alloc | apply Kd.R_drewN | apply Kd.R_drew)); exact Kd.R_mono (Kd.R_far (p := ⟨gb176, 4, none⟩) (Kd.R_far (p := ⟨gb176, 3, none⟩) (Kd.R_far (p := ⟨gb176, 2, none⟩) (Kd.R_far (p := ⟨gb176, 1, none⟩) (Kd.R_far (p := ⟨gb176, 0, none⟩) (Kd.R_types HO174.out BK176.out (by decide)) (fun _ hk => hk.2) (.slice Ao60 t160.length co60)) (fun _ hk => hk.2) (.slice Ao66 t163.length co66)) (fun _ hk => hk.2) (.slice Ao67 t166.length co67)) (fun _ hk => hk.2) (.slice Ao68 t169.length co68)) (fun _ hk => hk.2) (.slice Ao69 t172.length co69)) (fun _ hk => ⟨hk.1.1.1.1.2, ⟨hk.1.1.1.2, ⟨hk.1.1.2, ⟨hk.1.2, hk.1.1.1.1.1⟩⟩⟩⟩)⟩
         have n17_ : Aside0 ((((((w59.setCell ⟨gb176, 0, none⟩ (.slice Ao60 t160.length co60)).setCell ⟨gb176, 1, none⟩ (.slice Ao66 t163.length co66)).setCell ⟨gb176, 2, none⟩ (.slice Ao67 t166.length co67)).setCell ⟨gb176, 3, none⟩ (.slice Ao68 t169.length co68)).setCell ⟨gb176, 4, none⟩ (.slice Ao69 t172.length co69)).heap[gb101]? = some (.cells #[.slice Ao25 t103.length co25, .slice Ao27 t106.length co27, .slice Ao28 t109.length co28, .slice Ao29 t112.length co29, .slice Ao30 t115.length co30] 27 (0, 0))) := ⟨by (with_reducible repeat (first | refine blk_drewN ?_ _ | refine blk_drew ?_ | refine blk_alloc ?_ _)); refine blk_far ?_ NB101_176.out _; (with_reducible repeat (first | refine blk_drewN ?_ _ | refine blk_drew ?_ | refine blk_alloc ?_ _)); refine blk_far ?_ NB101_176.out _; (with_reducible repeat (first | refine blk_drewN ?_ _ | refine blk_drew ?_ | refine blk_alloc ?_ _)); refine blk_far ?_ NB101_176.out _; (with_reducible repeat (first | refine blk_drewN ?_ _ | refine blk_drew ?_ | refine blk_alloc ?_ _)); refine blk_far ?_ NB101_176.out _; (with_reducible repeat (first | refine blk_drewN ?_ _ | refine blk_drew ?_ | refine blk_alloc ?_ _)); refine blk_far ?_ NB101_176.out _; (with_reducible repeat (first | refine blk_drewN ?_ _ | refine blk_drew ?_ | refine blk_alloc ?_ _)); exact BK101.out⟩
         have n18_ : Aside0 ((((((w59.setCell ⟨gb176, 0, none⟩ (.slice Ao60 t160.length co60)).setCell ⟨gb176, 1, none⟩ (.slice Ao66 t163.length co66)).setCell ⟨gb176, 2, none⟩ (.slice Ao67 t166.length co67)).setCell ⟨gb176, 3, none⟩ (.slice Ao68 t169.length co68)).setCell ⟨gb176, 4, none⟩ (.slice Ao69 t172.length co69)).heap[gb130]? = some (.cells #[.int .i64 t122, .int .i64 t123, .int .i64 t124, .int .i64 t125, .int .i64 t126, .int .i64 t127, .int .i64 t128] 35 (0, 0))) := ⟨by (with_reducible repeat (first | refine blk_drewN ?_ _ | refine blk_drew ?_ | refine blk_alloc ?_ _)); refine blk_far ?_ NB130_176.out _; (with_reducible repeat (first | refine blk_drewN ?_ _ | refine blk_drew ?_ | refine blk_alloc ?_ _)); refine blk_far ?_ NB130_176.out _; (with_reducible repeat (first | refine blk_drewN ?_ _ | refine blk_drew ?_ | refine blk_alloc ?_ _)); refine blk_far ?_ NB130_176.out _; (with_reducible repeat (first | refine blk_drewN ?_ _ | refine blk_drew ?_ | refine blk_alloc ?_ _)); refine blk_far ?_ NB130_176.out _; (with_reducible repeat (first | refine blk_drewN ?_ _ | refine blk_drew ?_ | refine blk_alloc ?_ _)); refine blk_far ?_ NB130_176.out _; (with_reducible repeat (first | refine blk_drewN ?_ _ | refine blk_drew ?_ | refine blk_alloc ?_ _)); exact BK130.out⟩
         have n19_ : Aside0 ((((((w59.setCell ⟨gb176, 0, none⟩ (.slice Ao60 t160.length co60)).setCell ⟨gb176, 1, none⟩ (.slice Ao66 t163.length co66)).setCell ⟨gb176, 2, none⟩ (.slice Ao67 t166.length co67)).setCell ⟨gb176, 3, none⟩ (.slice Ao68 t169.length co68)).setCell ⟨gb176, 4, none⟩ (.slice Ao69 t172.length co69)).heap[gb142]? = some (.cells #[.int .i64 t134, .int .i64 t135, .int .i64 t136, .int .i64 t137, .int .i64 t138, .int .i64 t139, .int .i64 t140] 35 (0, 0))) := ⟨by (with_reducible repeat (first | refine blk_drewN ?_ _ | refine blk_drew ?_ | refine blk_alloc ?_ _)); refine blk_far ?_ NB142_176.out _; (with_reducible repeat (first | refine blk_drewN ?_ _ | refine blk_drew ?_ | refine blk_alloc ?_ _)); refine blk_far ?_ NB142_176.out _; (with_reducible repeat (first | refine blk_drewN ?_ _ | refine blk_drew ?_ | refine blk_alloc ?_ _)); refine blk_far ?_ NB142_176.out _; (with_reducible repeat (first | refine blk_drewN ?_ _ | refine blk_drew ?_ | refine blk_alloc ?_ _)); refine blk_far ?_ NB142_176.out _; (with_reducible repeat (first | refine blk_drewN ?_ _ | refine blk_drew ?_ | refine blk_alloc ?_ _)); refine blk_far ?_ NB142_176.out _; (with_reducible repeat (first | refine blk_drewN ?_ _ | refine blk_drew ?_ | refine blk_alloc ?_ _)); exact BK142.out⟩
         have n20_ : Aside0 ((((((w59.setCell ⟨gb176, 0, none⟩ (.slice Ao60 t160.length co60)).setCell ⟨gb176, 1, none⟩ (.slice Ao66 t163.length co66)).setCell ⟨gb176, 2, none⟩ (.slice Ao67 t166.length co67)).setCell ⟨gb176, 3, none⟩ (.slice Ao68 t169.length co68)).setCell ⟨gb176, 4, none⟩ (.slice Ao69 t172.length co69)).heap[gb159]? = some (.cells #[.slice Ao47 t143.length co47, .slice Ao52 t146.length co52, .slice Ao53 t149.length co53, .slice Ao54 t152.length co54, .slice Ao55 t155.length co55] 27 (0, 0))) := ⟨by (with_reducible repeat (first | refine blk_drewN ?_ _ | refine blk_drew ?_ | refine blk_alloc ?_ _)); refine blk_far ?_ NB159_176.out _; (with_reducible repeat (first | refine blk_drewN ?_ _ | refine blk_drew ?_ | refine blk_alloc ?_ _)); refine blk_far ?_ NB159_176.out _; (with_reducible repeat (first | refine blk_drewN ?_ _ | refine blk_drew ?_ | refine blk_alloc ?_ _)); refine blk_far ?_ NB159_176.out _; (with_reducible repeat (first | refine blk_drewN ?_ _ | refine blk_drew ?_ | refine blk_alloc ?_ _)); refine blk_far ?_ NB159_176.out _; (with_reducible repeat (first | refine blk_drewN ?_ _ | refine blk_drew ?_ | refine blk_alloc ?_ _)); refine blk_far ?_ NB159_176.out _; (with_reducible repeat (first | refine blk_drewN ?_ _ | refine blk_drew ?_ | refine blk_alloc ?_ _)); exact BK159.out⟩
         have n21_ : Aside0 ((((((w59.setCell ⟨gb176, 0, none⟩ (.slice Ao60 t160.length co60)).setCell ⟨gb176, 1, none⟩ (.slice Ao66 t163.length co66)).setCell ⟨gb176, 2, none⟩ (.slice Ao67 t166.length co67)).setCell ⟨gb176, 3, none⟩ (.slice Ao68 t169.length co68)).setCell ⟨gb176, 4, none⟩ (.slice Ao69 t172.length co69)).heap[gb176]? = some (.cells #[.slice Ao60 t160.length co60, .slice Ao66 t163.length co66, .slice Ao67 t166.length co67, .slice Ao68 t169.length co68, .slice Ao69 t172.length co69] 27 (0, 0))) := ⟨by (with_reducible repeat (first | refine blk_drewN ?_ _ | refine blk_drew ?_ | refine blk_alloc ?_ _)); refine blk_put (cs := #[.slice Ao60 t160.length co60, .slice Ao66 t163.length co66, .slice Ao67 t166.length co67, .slice Ao68 t169.length co68, .slice none 0 0]) ?_ 4 _ rfl; (with_reducible repeat (first | refine blk_drewN ?_ _ | refine blk_drew ?_ | refine blk_alloc ?_ _)); refine blk_put (cs := #[.slice Ao60 t160.length co60, .slice Ao66 t163.length co66, .slice Ao67 t166.length co67, .slice none 0 0, .slice none 0 0]) ?_ 3 _ rfl; (with_reducible repeat (first | refine blk_drewN ?_ _ | refine blk_drew ?_ | refine blk_alloc ?_ _)); refine blk_put (cs := #[.slice Ao60 t160.length co60, .slice Ao66 t163.length co66, .slice none 0 0, .slice none 0 0, .slice none 0 0]) ?_ 2 _ rfl; (with_reducible repeat (first | refine blk_drewN ?_ _ | refine blk_drew ?_ | refine blk_alloc ?_ _)); refine blk_put (cs := #[.slice Ao60 t160.length co60, .slice none 0 0, .slice none 0 0, .slice none 0 0, .slice none 0 0]) ?_ 1 _ rfl; (with_reducible repeat (first | refine blk_drewN ?_ _ | refine blk_drew ?_ | refine blk_alloc ?_ _)); refine blk_put (cs := #[.slice none 0 0, .slice none 0 0, .slice none 0 0, .slice none 0 0, .slice none 0 0]) ?_ 0 _ rfl; (with_reducible repeat (first | refine blk_drewN ?_ _ | refine blk_drew ?_ | refine blk_alloc ?_ _)); exact BK176.out⟩
         have n22_ : Aside0 (Below w.heap.size w (((((w59.setCell ⟨gb176, 0, none⟩ (.slice Ao60 t160.length co60)).setCell ⟨gb176, 1, none⟩ (.slice Ao66 t163.length co66)).setCell ⟨gb176, 2, none⟩ (.slice Ao67 t166.length co67)).setCell ⟨gb176, 3, none⟩ (.slice Ao68 t169.length co68)).setCell ⟨gb176, 4, none⟩ (.slice Ao69 t172.length co69))) := ⟨by repeat (first | (with_reducible first | exact HB.out | apply below_alloc | apply pw_below_drewN | apply below_drew1 | refine below_set ?_ GE101.out | refine below_set ?_ GE130.out | refine below_set ?_ GE142.out | refine below_set ?_ GE159.out | refine below_set ?_ GE176.out) | exact HB.out)⟩
         (try clear HO105)
         (try clear HO108)
         (try clear HO111)
         (try clear HO114)
         (try clear HO117)
         (try clear HO121)
         (try clear HO133)
         (try clear HO145)
         (try clear HO148)
         (try clear HO151)
         (try clear HO154)
         (try clear HO157)
         (try clear HO162)
         (try clear HO165)
         (try clear HO168)
         (try clear HO171)
         (try clear HO174)
         (try clear BK101)
         (try clear BK130)
         (try clear BK142)
         (try clear BK159)
         (try clear BK176)
         (try clear HB)
         generalize (((((w59.setCell ⟨gb176, 0, none⟩ (.slice Ao60 t160.length co60)).setCell ⟨gb176, 1, none⟩ (.slice Ao66 t163.length co66)).setCell ⟨gb176, 2, none⟩ (.slice Ao67 t166.length co67)).setCell ⟨gb176, 3, none⟩ (.slice Ao68 t169.length co68)).setCell ⟨gb176, 4, none⟩ (.slice Ao69 t172.length co69)) = w70 at n0_ n1_ n2_ n3_ n4_ n5_ n6_ n7_ n8_ n9_ n10_ n11_ n12_ n13_ n14_ n15_ n16_ n17_ n18_ n19_ n20_ n21_ n22_ ⊢
         have HO105 := n0_
         have HO108 := n1_
         have HO111 := n2_
         have HO114 := n3_
         have HO117 := n4_
         have HO121 := n5_
         have HO133 := n6_
         have HO145 := n7_
         have HO148 := n8_
         have HO151 := n9_
         have HO154 := n10_
         have HO157 := n11_
         have HO162 := n12_
         have HO165 := n13_
         have HO168 := n14_
         have HO171 := n15_
         have HO174 := n16_
         have BK101 := n17_
         have BK130 := n18_
         have BK142 := n19_
         have BK159 := n20_
         have BK176 := n21_
         have HB := n22_
         clear n0_ n1_ n2_ n3_ n4_ n5_ n6_ n7_ n8_ n9_ n10_ n11_ n12_ n13_ n14_ n15_ n16_ n17_ n18_ n19_ n20_ n21_ n22_
         have n0_ := Aside0.mk (Kd.R_drew HO105.out)
         have n1_ := Aside0.mk (Kd.R_drew HO108.out)
         have n2_ := Aside0.mk (Kd.R_drew HO111.out)
         have n3_ := Aside0.mk (Kd.R_drew HO114.out)
         have n4_ := Aside0.mk (Kd.R_drew HO117.out)
         have n5_ := Aside0.mk (Kd.R_drew HO121.out)
         have n6_ := Aside0.mk (Kd.R_drew HO133.out)
         have n7_ := Aside0.mk (Kd.R_drew HO145.out)
         have n8_ := Aside0.mk (Kd.R_drew HO148.out)
         have n9_ := Aside0.mk (Kd.R_drew HO151.out)
         have n10_ := Aside0.mk (Kd.R_drew HO154.out)
         have n11_ := Aside0.mk (Kd.R_drew HO157.out)
         have n12_ := Aside0.mk (Kd.R_drew HO162.out)
         have n13_ := Aside0.mk (Kd.R_drew HO165.out)
         have n14_ := Aside0.mk (Kd.R_drew HO168.out)
         have n15_ := Aside0.mk (Kd.R_drew HO171.out)
         have n16_ := Aside0.mk (Kd.R_drew HO174.out)
         have n17_ := Aside0.mk (blk_drew BK101.out)
         have n18_ := Aside0.mk (blk_drew BK130.out)
         have n19_ := Aside0.mk (blk_drew BK142.out)
         have n20_ := Aside0.mk (blk_drew BK159.out)
         have n21_ := Aside0.mk (blk_drew BK176.out)
         have n22_ := Aside0.mk (below_drew1 HB.out)
         clear HO105
         clear HO108
         clear HO111
         clear HO114
         clear HO117
         clear HO121
         clear HO133
         clear HO145
         clear HO148
         clear HO151
         clear HO154
         clear HO157
         clear HO162
         clear HO165
         clear HO168
         clear HO171
         clear HO174
         clear BK101
         clear BK130
         clear BK142
         clear BK159
         clear BK176
         clear HB
         have HO105 := n0_
         have HO108 := n1_
         have HO111 := n2_
         have HO114 := n3_
         have HO117 := n4_
         have HO121 := n5_
         have HO133 := n6_
         have HO145 := n7_
         have HO148 := n8_
         have HO151 := n9_
         have HO154 := n10_
         have HO157 := n11_
         have HO162 := n12_
         have HO165 := n13_
         have HO168 := n14_
         have HO171 := n15_
         have HO174 := n16_
         have BK101 := n17_
         have BK130 := n18_
         have BK142 := n19_
         have BK159 := n20_
         have BK176 := n21_
         have HB := n22_
         clear n0_ n1_ n2_ n3_ n4_ n5_ n6_ n7_ n8_ n9_ n10_ n11_ n12_ n13_ n14_ n15_ n16_ n17_ n18_ n19_ n20_ n21_ n22_
         refine start_ (n := 47) (S := fun w' => w'.cell? ⟨gb130, 0, none⟩ = some (.int .i64 t122) ∧ w'.cell? ⟨gb130, 1, none⟩ = some (.int .i64 t123) ∧ w'.cell? ⟨gb130, 2, none⟩ = some (.int .i64 t124) ∧ w'.cell? ⟨gb130, 3, none⟩ = some (.int .i64 t125) ∧ w'.cell? ⟨gb130, 4, none⟩ = some (.int .i64 t126) ∧ w'.cell? ⟨gb130, 5, none⟩ = some (.int .i64 t127) ∧ w'.cell? ⟨gb130, 6, none⟩ = some (.int .i64 t128) ∧ w'.cell? ⟨gb142, 0, none⟩ = some (.int .i64 t134) ∧ w'.cell? ⟨gb142, 1, none⟩ = some (.int .i64 t135) ∧ w'.cell? ⟨gb142, 2, none⟩ = some (.int .i64 t136) ∧ w'.cell? ⟨gb142, 3, none⟩ = some (.int .i64 t137) ∧ w'.cell? ⟨gb142, 4, none⟩ = some (.int .i64 t138) ∧ w'.cell? ⟨gb142, 5, none⟩ = some (.int .i64 t139) ∧ w'.cell? ⟨gb142, 6, none⟩ = some (.int .i64 t140) ∧ w'.cell? ⟨gb101, 0, none⟩ = some (.slice Ao25 t103.length co25) ∧ w'.cell? ⟨gb101, 1, none⟩ = some (.slice Ao27 t106.length co27) ∧ w'.cell? ⟨gb101, 2, none⟩ = some (.slice Ao28 t109.length co28) ∧ w'.cell? ⟨gb101, 3, none⟩ = some (.slice Ao29 t112.length co29) ∧ w'.cell? ⟨gb101, 4, none⟩ = some (.slice Ao30 t115.length co30) ∧ w'.cell? ⟨gb159, 0, none⟩ = some (.slice Ao47 t143.length co47) ∧ w'.cell? ⟨gb159, 1, none⟩ = some (.slice Ao52 t146.length co52) ∧ w'.cell? ⟨gb159, 2, none⟩ = some (.slice Ao53 t149.length co53) ∧ w'.cell? ⟨gb159, 3, none⟩ = some (.slice Ao54 t152.length co54) ∧ w'.cell? ⟨gb159, 4, none⟩ = some (.slice Ao55 t155.length co55) ∧ w'.cell? ⟨gb176, 0, none⟩ = some (.slice Ao60 t160.length co60) ∧ w'.cell? ⟨gb176, 1, none⟩ = some (.slice Ao66 t163.length co66) ∧ w'.cell? ⟨gb176, 2, none⟩ = some (.slice Ao67 t166.length co67) ∧ w'.cell? ⟨gb176, 3, none⟩ = some (.slice Ao68 t169.length co68) ∧ w'.cell? ⟨gb176, 4, none⟩ = some (.slice Ao69 t172.length co69)) (ds := []) #[false, false, false, false, false, false, false, false, false, false, false, false, false, false, false, false, false, false, false, false, false, false, false, false, false, false, false, false, false, false, false, false, false, false, false, false, false, false, false, false, false, false, false, false, false, false, false] (by kernel_rfl) rfl rfl ⟨(blk_cell BK130.out 0).trans rfl, (blk_cell BK130.out 1).trans rfl, (blk_cell BK130.out 2).trans rfl, (blk_cell BK130.out 3).trans rfl, (blk_cell BK130.out 4).trans rfl, (blk_cell BK130.out 5).trans rfl, (blk_cell BK130.out 6).trans rfl, (blk_cell BK142.out 0).trans rfl, (blk_cell BK142.out 1).trans rfl, (blk_cell BK142.out 2).trans rfl, (blk_cell BK142.out 3).trans rfl, (blk_cell BK142.out 4).trans rfl, (blk_cell BK142.out 5).trans rfl, (blk_cell BK142.out 6).trans rfl, (blk_cell BK101.out 0).trans rfl, (blk_cell BK101.out 1).trans rfl, (blk_cell BK101.out 2).trans rfl, (blk_cell BK101.out 3).trans rfl, (blk_cell BK101.out 4).trans rfl, (blk_cell BK159.out 0).trans rfl, (blk_cell BK159.out 1).trans rfl, (blk_cell BK159.out 2).trans rfl, (blk_cell BK159.out 3).trans rfl, (blk_cell BK159.out 4).trans rfl, (blk_cell BK176.out 0).trans rfl, (blk_cell BK176.out 1).trans rfl, (blk_cell BK176.out 2).trans rfl, (blk_cell BK176.out 3).trans rfl, (blk_cell BK176.out 4).trans rfl⟩ (fun hHeld => ?_); refine with_tabW longcaselaw06_BlockWide.tab10 longcaselaw06_BlockWide.bits10 (fun HT_ HW_ => ?_)
         generalize w70.drew = w71 at HO105 HO108 HO111 HO114 HO117 HO121 HO133 HO145 HO148 HO151 HO154 HO157 HO162 HO165 HO168 HO171 HO174 BK101 BK130 BK142 BK159 BK176 HB hHeld ⊢
         refine pure_ (i := 0) (N := some 53) (v := ?_) (a' := ?_) (bm 47 1) rfl rfl (any_of HT_.out (by kernel_rfl)) (fun _ _ _ h => h) (Or.inl ⟨by rfl, ?_⟩) ?_ ?_
         rotate_left
         ·
          intro w'
          go_simp
          with_reducible rfl
         rotate_left
         ·
          simp only [Act.put, List.setIfInBounds_toArray, List.set_cons_zero, List.set_cons_succ, i64_w, i32_w]
          rfl
         refine pure_ (i := 1) (N := some 54) (v := ?_) (a' := ?_) (bm 47 3) rfl rfl (any_of HT_.out (by kernel_rfl)) (fun _ _ _ h => h) (Or.inl ⟨by rfl, ?_⟩) ?_ ?_
         rotate_left
         ·
          intro w'
          go_simp
          with_reducible rfl
         rotate_left
         ·
          simp only [Act.put, List.setIfInBounds_toArray, List.set_cons_zero, List.set_cons_succ, i64_w, i32_w]
          rfl
         refine pure_ (i := 2) (N := some 55) (v := ?_) (a' := ?_) (bm 47 7) rfl rfl (any_of HT_.out (by kernel_rfl)) (fun _ _ _ h => h) (Or.inl ⟨by rfl, ?_⟩) ?_ ?_
         rotate_left
         ·
          intro w'
          go_simp
          with_reducible rfl
         rotate_left
         ·
          simp only [Act.put, List.setIfInBounds_toArray, List.set_cons_zero, List.set_cons_succ, i64_w, i32_w]
          rfl
         refine pure_ (i := 3) (N := some 56) (v := ?_) (a' := ?_) (bm 47 15) rfl rfl (any_of HT_.out (by kernel_rfl)) (fun _ _ _ h => h) (Or.inl ⟨by rfl, ?_⟩) ?_ ?_
         rotate_left
         ·
          intro w'
          go_simp
          with_reducible rfl
         rotate_left
         ·
          simp only [Act.put, List.setIfInBounds_toArray, List.set_cons_zero, List.set_cons_succ, i64_w, i32_w]
          rfl
         refine pure_ (i := 4) (N := some 57) (v := ?_) (a' := ?_) (bm 47 31) rfl rfl (any_of HT_.out (by kernel_rfl)) (fun _ _ _ h => h) (Or.inl ⟨by rfl, ?_⟩) ?_ ?_
         rotate_left
         ·
          intro w'
          go_simp
          with_reducible rfl
         rotate_left
         ·
          simp only [Act.put, List.setIfInBounds_toArray, List.set_cons_zero, List.set_cons_succ, i64_w, i32_w]
          rfl
         refine pure_ (i := 5) (N := some 58) (v := ?_) (a' := ?_) (bm 47 63) rfl rfl (any_of HT_.out (by kernel_rfl)) (fun _ _ _ h => h) (Or.inl ⟨by rfl, ?_⟩) ?_ ?_
         rotate_left
         ·
          intro w'
          go_simp
          with_reducible rfl
         rotate_left
         ·
          simp only [Act.put, List.setIfInBounds_toArray, List.set_cons_zero, List.set_cons_succ, i64_w, i32_w]
          rfl
         refine pure_ (i := 6) (N := some 59) (v := ?_) (a' := ?_) (bm 47 127) rfl rfl (any_of HT_.out (by kernel_rfl)) (fun _ _ _ h => h) (Or.inl ⟨by rfl, ?_⟩) ?_ ?_
         rotate_left
         ·
          intro w'
          go_simp
          with_reducible rfl
         rotate_left
         ·
          simp only [Act.put, List.setIfInBounds_toArray, List.set_cons_zero, List.set_cons_succ, i64_w, i32_w]
          rfl
         refine pure_ (i := 7) (N := some 60) (v := ?_) (a' := ?_) (bm 47 255) rfl rfl (any_of HT_.out (by kernel_rfl)) (fun _ _ _ h => h) (Or.inl ⟨by rfl, ?_⟩) ?_ ?_
         rotate_left
         ·
          intro w'
          go_simp
          with_reducible rfl
         rotate_left
         ·
          simp only [Act.put, List.setIfInBounds_toArray, List.set_cons_zero, List.set_cons_succ, i64_w, i32_w]
          rfl
         refine pure_ (i := 8) (N := some 61) (v := ?_) (a' := ?_) (bm 47 511) rfl rfl (any_of HT_.out (by kernel_rfl)) (fun _ _ _ h => h) (Or.inl ⟨by rfl, ?_⟩) ?_ ?_
         rotate_left
         ·
          intro w'
          go_simp
          with_reducible rfl
         rotate_left
         ·
          simp only [Act.put, List.setIfInBounds_toArray, List.set_cons_zero, List.set_cons_succ, i64_w, i32_w]
          rfl
         refine pure_ (i := 9) (N := some 62) (v := ?_) (a' := ?_) (bm 47 1023) rfl rfl (any_of HT_.out (by kernel_rfl)) (fun _ _ _ h => h) (Or.inl ⟨by rfl, ?_⟩) ?_ ?_
         rotate_left
         ·
          intro w'
          go_simp
          with_reducible rfl
         rotate_left
         ·
          simp only [Act.put, List.setIfInBounds_toArray, List.set_cons_zero, List.set_cons_succ, i64_w, i32_w]
          rfl
         refine take_ (i := 10) (N := some 63) (v := ?_) (a' := ?_) (bm 47 2047) rfl rfl (take_ofW HT_.out HW_.out (by kernel_rfl)) (fun _ _ _ h => h) (Or.inl ⟨by rfl, ?_⟩) hHeld ?_ ?_
         rotate_left
         ·
          rintro w' ⟨s0, s1, s2, s3, s4, s5, s6, s7, s8, s9, s10, s11, s12, s13, s14, s15, s16, s17, s18, s19, s20, s21, s22, s23, s24, s25, s26, s27, s28⟩
          go_simp
          with_reducible rfl
         rotate_left
         ·
          simp only [Act.put, List.setIfInBounds_toArray, List.set_cons_zero, List.set_cons_succ, i64_w, i32_w]
          rfl
         refine take_ (i := 11) (N := some 64) (v := ?_) (a' := ?_) (bm 47 4095) rfl rfl (take_ofW HT_.out HW_.out (by kernel_rfl)) (fun _ _ _ h => h) (Or.inl ⟨by rfl, ?_⟩) hHeld ?_ ?_
         rotate_left
         ·
          rintro w' ⟨s0, s1, s2, s3, s4, s5, s6, s7, s8, s9, s10, s11, s12, s13, s14, s15, s16, s17, s18, s19, s20, s21, s22, s23, s24, s25, s26, s27, s28⟩
          go_simp
          with_reducible rfl
         rotate_left
         ·
          simp only [Act.put, List.setIfInBounds_toArray, List.set_cons_zero, List.set_cons_succ, i64_w, i32_w]
          rfl
         refine pure_ (i := 12) (N := some 65) (v := ?_) (a' := ?_) (bm 47 8191) rfl rfl (any_of HT_.out (by kernel_rfl)) (fun _ _ _ h => h) (Or.inl ⟨by rfl, ?_⟩) ?_ ?_
         rotate_left
         ·
          intro w'
          go_simp
          with_reducible rfl
         rotate_left
         ·
          simp only [Act.put, List.setIfInBounds_toArray, List.set_cons_zero, List.set_cons_succ, i64_w, i32_w]
          rfl
         refine pure_ (i := 13) (N := some 66) (v := ?_) (a' := ?_) (bm 47 16383) rfl rfl (any_of HT_.out (by kernel_rfl)) (fun _ _ _ h => h) (Or.inl ⟨by rfl, ?_⟩) ?_ ?_
         rotate_left
         ·
          intro w'
          go_simp
          with_reducible rfl
         rotate_left
         ·
          simp only [Act.put, List.setIfInBounds_toArray, List.set_cons_zero, List.set_cons_succ, i64_w, i32_w]
          rfl
         refine pure_ (i := 14) (N := some 67) (v := ?_) (a' := ?_) (bm 47 32767) rfl rfl (any_of HT_.out (by kernel_rfl)) (fun _ _ _ h => h) (Or.inl ⟨by rfl, ?_⟩) ?_ ?_
         rotate_left
         ·
          intro w'
          go_simp
          with_reducible rfl
         rotate_left
         ·
          simp only [Act.put, List.setIfInBounds_toArray, List.set_cons_zero, List.set_cons_succ, i64_w, i32_w]
          rfl
         refine pure_ (i := 15) (N := some 68) (v := ?_) (a' := ?_) (bm 47 65535) rfl rfl (any_of HT_.out (by kernel_rfl)) (fun _ _ _ h => h) (Or.inl ⟨by rfl, ?_⟩) ?_ ?_
         rotate_left
         ·
          intro w'
          go_simp
          with_reducible rfl
         rotate_left
         ·
          simp only [Act.put, List.setIfInBounds_toArray, List.set_cons_zero, List.set_cons_succ, i64_w, i32_w]
          rfl
         refine pure_ (i := 16) (N := some 69) (v := ?_) (a' := ?_) (bm 47 131071) rfl rfl (any_of HT_.out (by kernel_rfl)) (fun _ _ _ h => h) (Or.inl ⟨by rfl, ?_⟩) ?_ ?_
         rotate_left
         ·
          intro w'
          go_simp
          with_reducible rfl
         rotate_left
         ·
          simp only [Act.put, List.setIfInBounds_toArray, List.set_cons_zero, List.set_cons_succ, i64_w, i32_w]
          rfl
         refine pure_ (i := 17) (N := some 70) (v := ?_) (a' := ?_) (bm 47 262143) rfl rfl (any_of HT_.out (by kernel_rfl)) (fun _ _ _ h => h) (Or.inl ⟨by rfl, ?_⟩) ?_ ?_
         rotate_left
         ·
          intro w'
          go_simp
          with_reducible rfl
         rotate_left
         ·
          simp only [Act.put, List.setIfInBounds_toArray, List.set_cons_zero, List.set_cons_succ, i64_w, i32_w]
          rfl
         refine pure_ (i := 18) (N := some 71) (v := ?_) (a' := ?_) (bm 47 524287) rfl rfl (any_of HT_.out (by kernel_rfl)) (fun _ _ _ h => h) (Or.inl ⟨by rfl, ?_⟩) ?_ ?_
         rotate_left
         ·
          intro w'
          go_simp
          with_reducible rfl
         rotate_left
         ·
          simp only [Act.put, List.setIfInBounds_toArray, List.set_cons_zero, List.set_cons_succ, i64_w, i32_w]
          rfl
         refine pure_ (i := 19) (N := some 72) (v := ?_) (a' := ?_) (bm 47 1048575) rfl rfl (any_of HT_.out (by kernel_rfl)) (fun _ _ _ h => h) (Or.inl ⟨by rfl, ?_⟩) ?_ ?_
         rotate_left
         ·
          intro w'
          go_simp
          with_reducible rfl
         rotate_left
         ·
          simp only [Act.put, List.setIfInBounds_toArray, List.set_cons_zero, List.set_cons_succ, i64_w, i32_w]
          rfl
         refine pure_ (i := 24) (N := some 77) (v := ?_) (a' := ?_) (bm 47 17825791) rfl rfl (any_of HT_.out (by kernel_rfl)) (fun _ _ _ h => h) (Or.inl ⟨by rfl, ?_⟩) ?_ ?_
         rotate_left
         ·
          intro w'
          go_simp
          with_reducible rfl
         rotate_left
         ·
          simp only [Act.put, List.setIfInBounds_toArray, List.set_cons_zero, List.set_cons_succ, i64_w, i32_w]
          rfl
         refine take_ (i := 20) (N := some 73) (v := ?_) (a' := ?_) (bm 47 18874367) rfl rfl (take_ofW HT_.out HW_.out (by kernel_rfl)) (fun _ _ _ h => h) (Or.inl ⟨by rfl, ?_⟩) hHeld ?_ ?_
         rotate_left
         ·
          rintro w' ⟨s0, s1, s2, s3, s4, s5, s6, s7, s8, s9, s10, s11, s12, s13, s14, s15, s16, s17, s18, s19, s20, s21, s22, s23, s24, s25, s26, s27, s28⟩
          go_simp
          with_reducible rfl
         rotate_left
         ·
          simp only [Act.put, List.setIfInBounds_toArray, List.set_cons_zero, List.set_cons_succ, i64_w, i32_w]
          rfl
         refine pure_ (i := 21) (N := some 74) (v := ?_) (a' := ?_) (bm 47 20971519) rfl rfl (any_of HT_.out (by kernel_rfl)) (fun _ _ _ h => h) (Or.inl ⟨by rfl, ?_⟩) ?_ ?_
         rotate_left
         ·
          intro w'
          go_simp
          with_reducible rfl
         rotate_left
         ·
          simp only [Act.put, List.setIfInBounds_toArray, List.set_cons_zero, List.set_cons_succ, i64_w, i32_w]
          rfl
         refine pure_ (i := 22) (N := some 75) (v := ?_) (a' := ?_) (bm 47 25165823) rfl rfl (any_of HT_.out (by kernel_rfl)) (fun _ _ _ h => h) (Or.inl ⟨by rfl, ?_⟩) ?_ ?_
         rotate_left
         ·
          intro w'
          go_simp
          with_reducible rfl
         rotate_left
         ·
          simp only [Act.put, List.setIfInBounds_toArray, List.set_cons_zero, List.set_cons_succ, i64_w, i32_w]
          rfl
         refine pure_ (i := 23) (N := some 76) (v := ?_) (a' := ?_) (bm 47 33554431) rfl rfl (any_of HT_.out (by kernel_rfl)) (fun _ _ _ h => h) (Or.inl ⟨by rfl, ?_⟩) ?_ ?_
         rotate_left
         ·
          intro w'
          go_simp
          with_reducible rfl
         rotate_left
         ·
          simp only [Act.put, List.setIfInBounds_toArray, List.set_cons_zero, List.set_cons_succ, i64_w, i32_w]
          rfl
         refine take_ (i := 25) (N := some 78) (v := ?_) (a' := ?_) (bm 47 67108863) rfl rfl (take_ofW HT_.out HW_.out (by kernel_rfl)) (fun _ _ _ h => h) (Or.inl ⟨by rfl, ?_⟩) hHeld ?_ ?_
         rotate_left
         ·
          rintro w' ⟨s0, s1, s2, s3, s4, s5, s6, s7, s8, s9, s10, s11, s12, s13, s14, s15, s16, s17, s18, s19, s20, s21, s22, s23, s24, s25, s26, s27, s28⟩
          go_simp
          with_reducible rfl
         rotate_left
         ·
          simp only [Act.put, List.setIfInBounds_toArray, List.set_cons_zero, List.set_cons_succ, i64_w, i32_w]
          rfl
         refine pure_ (i := 26) (N := some 79) (v := ?_) (a' := ?_) (bm 47 134217727) rfl rfl (any_of HT_.out (by kernel_rfl)) (fun _ _ _ h => h) (Or.inl ⟨by rfl, ?_⟩) ?_ ?_
         rotate_left
         ·
          intro w'
          go_simp
          with_reducible rfl
         rotate_left
         ·
          simp only [Act.put, List.setIfInBounds_toArray, List.set_cons_zero, List.set_cons_succ, i64_w, i32_w]
          rfl
         refine pure_ (i := 27) (N := some 80) (v := ?_) (a' := ?_) (bm 47 268435455) rfl rfl (any_of HT_.out (by kernel_rfl)) (fun _ _ _ h => h) (Or.inl ⟨by rfl, ?_⟩) ?_ ?_
         rotate_left
         ·
          intro w'
          go_simp
          with_reducible rfl
         rotate_left
         ·
          simp only [Act.put, List.setIfInBounds_toArray, List.set_cons_zero, List.set_cons_succ, i64_w, i32_w]
          rfl
         refine pure_ (i := 28) (N := some 81) (v := ?_) (a' := ?_) (bm 47 536870911) rfl rfl (any_of HT_.out (by kernel_rfl)) (fun _ _ _ h => h) (Or.inl ⟨by rfl, ?_⟩) ?_ ?_
         rotate_left
         ·
          intro w'
          go_simp
          with_reducible rfl
         rotate_left
         ·
          simp only [Act.put, List.setIfInBounds_toArray, List.set_cons_zero, List.set_cons_succ, i64_w, i32_w]
          rfl
         refine pure_ (i := 29) (N := some 82) (v := ?_) (a' := ?_) (bm 47 1073741823) rfl rfl (any_of HT_.out (by kernel_rfl)) (fun _ _ _ h => h) (Or.inl ⟨by rfl, ?_⟩) ?_ ?_
         rotate_left
         ·
          intro w'
          go_simp
          with_reducible rfl
         rotate_left
         ·
          simp only [Act.put, List.setIfInBounds_toArray, List.set_cons_zero, List.set_cons_succ, i64_w, i32_w]
          rfl
         refine pure_ (i := 30) (N := some 83) (v := ?_) (a' := ?_) (bm 47 2147483647) rfl rfl (any_of HT_.out (by kernel_rfl)) (fun _ _ _ h => h) (Or.inl ⟨by rfl, ?_⟩) ?_ ?_
         rotate_left
         ·
          intro w'
          go_simp
          with_reducible rfl
         rotate_left
         ·
          simp only [Act.put, List.setIfInBounds_toArray, List.set_cons_zero, List.set_cons_succ, i64_w, i32_w]
          rfl
         refine pure_ (i := 31) (N := some 84) (v := ?_) (a' := ?_) (bm 47 4294967295) rfl rfl (any_of HT_.out (by kernel_rfl)) (fun _ _ _ h => h) (Or.inl ⟨by rfl, ?_⟩) ?_ ?_
         rotate_left
         ·
          intro w'
          go_simp
          with_reducible rfl
         rotate_left
         ·
          simp only [Act.put, List.setIfInBounds_toArray, List.set_cons_zero, List.set_cons_succ, i64_w, i32_w]
          rfl
         refine pure_ (i := 32) (N := some 85) (v := ?_) (a' := ?_) (bm 47 8589934591) rfl rfl (any_of HT_.out (by kernel_rfl)) (fun _ _ _ h => h) (Or.inl ⟨by rfl, ?_⟩) ?_ ?_
         rotate_left
         ·
          intro w'
          go_simp
          with_reducible rfl
         rotate_left
         ·
          simp only [Act.put, List.setIfInBounds_toArray, List.set_cons_zero, List.set_cons_succ, i64_w, i32_w]
          rfl
         refine pure_ (i := 33) (N := some 86) (v := ?_) (a' := ?_) (bm 47 17179869183) rfl rfl (any_of HT_.out (by kernel_rfl)) (fun _ _ _ h => h) (Or.inl ⟨by rfl, ?_⟩) ?_ ?_
         rotate_left
         ·
          intro w'
          go_simp
          with_reducible rfl
         rotate_left
         ·
          simp only [Act.put, List.setIfInBounds_toArray, List.set_cons_zero, List.set_cons_succ, i64_w, i32_w]
          rfl
         refine pure_ (i := 34) (N := some 87) (v := ?_) (a' := ?_) (bm 47 34359738367) rfl rfl (any_of HT_.out (by kernel_rfl)) (fun _ _ _ h => h) (Or.inl ⟨by rfl, ?_⟩) ?_ ?_
         rotate_left
         ·
          intro w'
          go_simp
          with_reducible rfl
         rotate_left
         ·
          simp only [Act.put, List.setIfInBounds_toArray, List.set_cons_zero, List.set_cons_succ, i64_w, i32_w]
          rfl
         refine pure_ (i := 35) (N := some 88) (v := ?_) (a' := ?_) (bm 47 68719476735) rfl rfl (any_of HT_.out (by kernel_rfl)) (fun _ _ _ h => h) (Or.inl ⟨by rfl, ?_⟩) ?_ ?_
         rotate_left
         ·
          intro w'
          go_simp
          with_reducible rfl
         rotate_left
         ·
          simp only [Act.put, List.setIfInBounds_toArray, List.set_cons_zero, List.set_cons_succ, i64_w, i32_w]
          rfl
         refine pure_ (i := 36) (N := some 89) (v := ?_) (a' := ?_) (bm 47 137438953471) rfl rfl (any_of HT_.out (by kernel_rfl)) (fun _ _ _ h => h) (Or.inl ⟨by rfl, ?_⟩) ?_ ?_
         rotate_left
         ·
          intro w'
          go_simp
          with_reducible rfl
         rotate_left
         ·
          simp only [Act.put, List.setIfInBounds_toArray, List.set_cons_zero, List.set_cons_succ, i64_w, i32_w]
          rfl
         refine pure_ (i := 37) (N := some 90) (v := ?_) (a' := ?_) (bm 47 274877906943) rfl rfl (any_of HT_.out (by kernel_rfl)) (fun _ _ _ h => h) (Or.inl ⟨by rfl, ?_⟩) ?_ ?_
         rotate_left
         ·
          intro w'
          go_simp
          with_reducible rfl
         rotate_left
         ·
          simp only [Act.put, List.setIfInBounds_toArray, List.set_cons_zero, List.set_cons_succ, i64_w, i32_w]
          rfl
         refine pure_ (i := 38) (N := some 91) (v := ?_) (a' := ?_) (bm 47 549755813887) rfl rfl (any_of HT_.out (by kernel_rfl)) (fun _ _ _ h => h) (Or.inl ⟨by rfl, ?_⟩) ?_ ?_
         rotate_left
         ·
          intro w'
          go_simp
          with_reducible rfl
         rotate_left
         ·
          simp only [Act.put, List.setIfInBounds_toArray, List.set_cons_zero, List.set_cons_succ, i64_w, i32_w]
          rfl
         refine pure_ (i := 39) (N := some 92) (v := ?_) (a' := ?_) (bm 47 1099511627775) rfl rfl (any_of HT_.out (by kernel_rfl)) (fun _ _ _ h => h) (Or.inl ⟨by rfl, ?_⟩) ?_ ?_
         rotate_left
         ·
          intro w'
          go_simp
          with_reducible rfl
         rotate_left
         ·
          simp only [Act.put, List.setIfInBounds_toArray, List.set_cons_zero, List.set_cons_succ, i64_w, i32_w]
          rfl
         refine take_ (i := 40) (N := some 93) (v := ?_) (a' := ?_) (bm 47 2199023255551) rfl rfl (take_ofW HT_.out HW_.out (by kernel_rfl)) (fun _ _ _ h => h) (Or.inl ⟨by rfl, ?_⟩) hHeld ?_ ?_
         rotate_left
         ·
          rintro w' ⟨s0, s1, s2, s3, s4, s5, s6, s7, s8, s9, s10, s11, s12, s13, s14, s15, s16, s17, s18, s19, s20, s21, s22, s23, s24, s25, s26, s27, s28⟩
          go_simp
          with_reducible rfl
         rotate_left
         ·
          simp only [Act.put, List.setIfInBounds_toArray, List.set_cons_zero, List.set_cons_succ, i64_w, i32_w]
          rfl
         refine take_ (i := 42) (N := some 95) (v := ?_) (a' := ?_) (bm 47 6597069766655) rfl rfl (take_ofW HT_.out HW_.out (by kernel_rfl)) (fun _ _ _ h => h) (Or.inl ⟨by rfl, ?_⟩) hHeld ?_ ?_
         rotate_left
         ·
          rintro w' ⟨s0, s1, s2, s3, s4, s5, s6, s7, s8, s9, s10, s11, s12, s13, s14, s15, s16, s17, s18, s19, s20, s21, s22, s23, s24, s25, s26, s27, s28⟩
          go_simp
          with_reducible rfl
         rotate_left
         ·
          simp only [Act.put, List.setIfInBounds_toArray, List.set_cons_zero, List.set_cons_succ, i64_w, i32_w]
          rfl
         refine one_ (i := 41) (N := some 94) (bm 47 8796093022207) rfl rfl (one_of HT_.out (by kernel_rfl)) (by decide) (fun K hK => ?_)
         refine goes_ Try.func14 (by kernel_rfl) rfl #[.agg #[.slice Ao47 t143.length co47, .slice Ao52 t146.length co52, .slice Ao53 t149.length co53, .slice Ao54 t152.length co54, .slice Ao55 t155.length co55]] (by rfl) rfl rfl (by (try simp only [List.map_toArray, List.map_cons, List.map_nil]); first | done | rfl | (simp only [List.length_drop, List.length_take]; rfl)) ?_
         with_reducible refine (longcaselaw06_ref.calls _ _ t143 _ _ t146 _ _ t149 _ _ t152 _ _ t155 t177 t180 t183 t186 t189 _ A18.out).mono ?_
         rintro e w72 ⟨v178, v181, v184, v187, v190, rfl, ho0, ho1, ho2, ho3, ho4, hb⟩
         refine ⟨_, rfl, ?_⟩
         have n0_ := krb HO105 hb
         have n1_ := krb HO108 hb
         have n2_ := krb HO111 hb
         have n3_ := krb HO114 hb
         have n4_ := krb HO117 hb
         have n5_ := krb HO121 hb
         have n6_ := krb HO133 hb
         have n7_ := krb HO145 hb
         have n8_ := krb HO148 hb
         have n9_ := krb HO151 hb
         have n10_ := krb HO154 hb
         have n11_ := krb HO157 hb
         have n12_ := krb HO162 hb
         have n13_ := krb HO165 hb
         have n14_ := krb HO168 hb
         have n15_ := krb HO171 hb
         have n16_ := krb HO174 hb
         have n17_ := Aside0.mk (ho0 _ _ (kr HO145))
         have n18_ := Aside0.mk (ho1 _ _ (kr HO148))
         have n19_ := Aside0.mk (ho2 _ _ (kr HO151))
         have n20_ := Aside0.mk (ho3 _ _ (kr HO154))
         have n21_ := Aside0.mk (ho4 _ _ (kr HO157))
         have n22_ := kbb BK101 hb
         have n23_ := kbb BK130 hb
         have n24_ := kbb BK142 hb
         have n25_ := kbb BK159 hb
         have n26_ := kbb BK176 hb
         have n27_ := Aside0.mk (below_step (by repeat (first | (with_reducible first | exact HB.out | apply below_alloc | apply pw_below_drewN | apply below_drew1 | refine below_set ?_ GE101.out | refine below_set ?_ GE130.out | refine below_set ?_ GE142.out | refine below_set ?_ GE159.out | refine below_set ?_ GE176.out) | exact HB.out)) hb)
         clear HO105
         clear HO108
         clear HO111
         clear HO114
         clear HO117
         clear HO121
         clear HO133
         clear HO145
         clear HO148
         clear HO151
         clear HO154
         clear HO157
         clear HO162
         clear HO165
         clear HO168
         clear HO171
         clear HO174
         clear BK101
         clear BK130
         clear BK142
         clear BK159
         clear BK176
         clear HB
         have HO105 := n0_
         have HO108 := n1_
         have HO111 := n2_
         have HO114 := n3_
         have HO117 := n4_
         have HO121 := n5_
         have HO133 := n6_
         have HO145 := n7_
         have HO148 := n8_
         have HO151 := n9_
         have HO154 := n10_
         have HO157 := n11_
         have HO162 := n12_
         have HO165 := n13_
         have HO168 := n14_
         have HO171 := n15_
         have HO174 := n16_
         have HO179 := n17_
         have HO182 := n18_
         have HO185 := n19_
         have HO188 := n20_
         have HO191 := n21_
         have BK101 := n22_
         have BK130 := n23_
         have BK142 := n24_
         have BK159 := n25_
         have BK176 := n26_
         have HB := n27_
         clear n0_ n1_ n2_ n3_ n4_ n5_ n6_ n7_ n8_ n9_ n10_ n11_ n12_ n13_ n14_ n15_ n16_ n17_ n18_ n19_ n20_ n21_ n22_ n23_ n24_ n25_ n26_ n27_
         (try clear hb)
         (try clear hb2)
         (try clear hk)
         (try clear hi)
         (try clear ho0)
         (try clear ho1)
         (try clear ho2)
         (try clear ho3)
         (try clear ho4)
         refine hK.out _ _ ⟨(blk_cell BK130.out 0).trans rfl, (blk_cell BK130.out 1).trans rfl, (blk_cell BK130.out 2).trans rfl, (blk_cell BK130.out 3).trans rfl, (blk_cell BK130.out 4).trans rfl, (blk_cell BK130.out 5).trans rfl, (blk_cell BK130.out 6).trans rfl, (blk_cell BK142.out 0).trans rfl, (blk_cell BK142.out 1).trans rfl, (blk_cell BK142.out 2).trans rfl, (blk_cell BK142.out 3).trans rfl, (blk_cell BK142.out 4).trans rfl, (blk_cell BK142.out 5).trans rfl, (blk_cell BK142.out 6).trans rfl, (blk_cell BK101.out 0).trans rfl, (blk_cell BK101.out 1).trans rfl, (blk_cell BK101.out 2).trans rfl, (blk_cell BK101.out 3).trans rfl, (blk_cell BK101.out 4).trans rfl, (blk_cell BK159.out 0).trans rfl, (blk_cell BK159.out 1).trans rfl, (blk_cell BK159.out 2).trans rfl, (blk_cell BK159.out 3).trans rfl, (blk_cell BK159.out 4).trans rfl, (blk_cell BK176.out 0).trans rfl, (blk_cell BK176.out 1).trans rfl, (blk_cell BK176.out 2).trans rfl, (blk_cell BK176.out 3).trans rfl, (blk_cell BK176.out 4).trans rfl⟩ (fun hHeld => ?_)
         clear hK K
         refine norm_ (a' := ?_) ?_ ?_
         rotate_left
         ·
          show Act.put _ (some 94) _ = _
          simp only [Act.put, List.setIfInBounds_toArray, List.set_cons_zero, List.set_cons_succ, i64_w, i32_w]
          rfl
         refine one_ (i := 43) (N := some 96) (bm 47 17592186044415) rfl rfl (one_of HT_.out (by kernel_rfl)) (by decide) (fun K hK => ?_)
         refine goes_ Try.func14 (by kernel_rfl) rfl #[.agg #[.slice Ao60 t160.length co60, .slice Ao66 t163.length co66, .slice Ao67 t166.length co67, .slice Ao68 t169.length co68, .slice Ao69 t172.length co69]] (by rfl) rfl rfl (by (try simp only [List.map_toArray, List.map_cons, List.map_nil]); first | done | rfl | (simp only [List.length_drop, List.length_take]; rfl)) ?_
         with_reducible refine (longcaselaw06_ref.calls _ _ t160 _ _ t163 _ _ t166 _ _ t169 _ _ t172 t192 t195 t198 t201 t204 _ A19.out).mono ?_
         rintro e w73 ⟨v193, v196, v199, v202, v205, rfl, ho0, ho1, ho2, ho3, ho4, hb⟩
         refine ⟨_, rfl, ?_⟩
         have n0_ := krb HO105 hb
         have n1_ := krb HO108 hb
         have n2_ := krb HO111 hb
         have n3_ := krb HO114 hb
         have n4_ := krb HO117 hb
         have n5_ := krb HO121 hb
         have n6_ := krb HO133 hb
         have n7_ := krb HO145 hb
         have n8_ := krb HO148 hb
         have n9_ := krb HO151 hb
         have n10_ := krb HO154 hb
         have n11_ := krb HO157 hb
         have n12_ := krb HO162 hb
         have n13_ := krb HO165 hb
         have n14_ := krb HO168 hb
         have n15_ := krb HO171 hb
         have n16_ := krb HO174 hb
         have n17_ := krb HO179 hb
         have n18_ := krb HO182 hb
         have n19_ := krb HO185 hb
         have n20_ := krb HO188 hb
         have n21_ := krb HO191 hb
         have n22_ := Aside0.mk (ho0 _ _ (kr HO162))
         have n23_ := Aside0.mk (ho1 _ _ (kr HO165))
         have n24_ := Aside0.mk (ho2 _ _ (kr HO168))
         have n25_ := Aside0.mk (ho3 _ _ (kr HO171))
         have n26_ := Aside0.mk (ho4 _ _ (kr HO174))
         have n27_ := kbb BK101 hb
         have n28_ := kbb BK130 hb
         have n29_ := kbb BK142 hb
         have n30_ := kbb BK159 hb
         have n31_ := kbb BK176 hb
         have n32_ := Aside0.mk (below_step (by repeat (first | (with_reducible first | exact HB.out | apply below_alloc | apply pw_below_drewN | apply below_drew1 | refine below_set ?_ GE101.out | refine below_set ?_ GE130.out | refine below_set ?_ GE142.out | refine below_set ?_ GE159.out | refine below_set ?_ GE176.out) | exact HB.out)) hb)
         clear HO105
         clear HO108
         clear HO111
         clear HO114
         clear HO117
         clear HO121
         clear HO133
         clear HO145
         clear HO148
         clear HO151
         clear HO154
         clear HO157
         clear HO162
         clear HO165
         clear HO168
         clear HO171
         clear HO174
         clear HO179
         clear HO182
         clear HO185
         clear HO188
         clear HO191
         clear BK101
         clear BK130
         clear BK142
         clear BK159
         clear BK176
         clear HB
         have HO105 := n0_
         have HO108 := n1_
         have HO111 := n2_
         have HO114 := n3_
         have HO117 := n4_
         have HO121 := n5_
         have HO133 := n6_
         have HO145 := n7_
         have HO148 := n8_
         have HO151 := n9_
         have HO154 := n10_
         have HO157 := n11_
         have HO162 := n12_
         have HO165 := n13_
         have HO168 := n14_
         have HO171 := n15_
         have HO174 := n16_
         have HO179 := n17_
         have HO182 := n18_
         have HO185 := n19_
         have HO188 := n20_
         have HO191 := n21_
         have HO194 := n22_
         have HO197 := n23_
         have HO200 := n24_
         have HO203 := n25_
         have HO206 := n26_
         have BK101 := n27_
         have BK130 := n28_
         have BK142 := n29_
         have BK159 := n30_
         have BK176 := n31_
         have HB := n32_
         clear n0_ n1_ n2_ n3_ n4_ n5_ n6_ n7_ n8_ n9_ n10_ n11_ n12_ n13_ n14_ n15_ n16_ n17_ n18_ n19_ n20_ n21_ n22_ n23_ n24_ n25_ n26_ n27_ n28_ n29_ n30_ n31_ n32_
         (try clear hb)
         (try clear hb2)
         (try clear hk)
         (try clear hi)
         (try clear ho0)
         (try clear ho1)
         (try clear ho2)
         (try clear ho3)
         (try clear ho4)
         obtain ⟨Ao74, co74, eo74⟩ := Kd.R_slice HO179.out
         (first | subst eo74 | (injection eo74 with f1_ f2_ f3_; have f4_ := f1_.symm; have f5_ := f3_.symm; clear f1_ f2_ f3_; subst f4_; subst f5_))
         obtain ⟨Ao75, co75, eo75⟩ := Kd.R_slice HO182.out
         (first | subst eo75 | (injection eo75 with f1_ f2_ f3_; have f4_ := f1_.symm; have f5_ := f3_.symm; clear f1_ f2_ f3_; subst f4_; subst f5_))
         obtain ⟨Ao76, co76, eo76⟩ := Kd.R_slice HO185.out
         (first | subst eo76 | (injection eo76 with f1_ f2_ f3_; have f4_ := f1_.symm; have f5_ := f3_.symm; clear f1_ f2_ f3_; subst f4_; subst f5_))
         obtain ⟨Ao77, co77, eo77⟩ := Kd.R_slice HO188.out
         (first | subst eo77 | (injection eo77 with f1_ f2_ f3_; have f4_ := f1_.symm; have f5_ := f3_.symm; clear f1_ f2_ f3_; subst f4_; subst f5_))
         obtain ⟨Ao78, co78, eo78⟩ := Kd.R_slice HO191.out
         (first | subst eo78 | (injection eo78 with f1_ f2_ f3_; have f4_ := f1_.symm; have f5_ := f3_.symm; clear f1_ f2_ f3_; subst f4_; subst f5_))
         obtain ⟨Ao79, co79, eo79⟩ := Kd.R_slice HO194.out
         (first | subst eo79 | (injection eo79 with f1_ f2_ f3_; have f4_ := f1_.symm; have f5_ := f3_.symm; clear f1_ f2_ f3_; subst f4_; subst f5_))
         obtain ⟨Ao80, co80, eo80⟩ := Kd.R_slice HO197.out
         (first | subst eo80 | (injection eo80 with f1_ f2_ f3_; have f4_ := f1_.symm; have f5_ := f3_.symm; clear f1_ f2_ f3_; subst f4_; subst f5_))
         obtain ⟨Ao81, co81, eo81⟩ := Kd.R_slice HO200.out
         (first | subst eo81 | (injection eo81 with f1_ f2_ f3_; have f4_ := f1_.symm; have f5_ := f3_.symm; clear f1_ f2_ f3_; subst f4_; subst f5_))
         obtain ⟨Ao82, co82, eo82⟩ := Kd.R_slice HO203.out
         (first | subst eo82 | (injection eo82 with f1_ f2_ f3_; have f4_ := f1_.symm; have f5_ := f3_.symm; clear f1_ f2_ f3_; subst f4_; subst f5_))
         obtain ⟨Ao83, co83, eo83⟩ := Kd.R_slice HO206.out
         (first | subst eo83 | (injection eo83 with f1_ f2_ f3_; have f4_ := f1_.symm; have f5_ := f3_.symm; clear f1_ f2_ f3_; subst f4_; subst f5_))
         refine hK.out _ _ ⟨(blk_cell BK130.out 0).trans rfl, (blk_cell BK130.out 1).trans rfl, (blk_cell BK130.out 2).trans rfl, (blk_cell BK130.out 3).trans rfl, (blk_cell BK130.out 4).trans rfl, (blk_cell BK130.out 5).trans rfl, (blk_cell BK130.out 6).trans rfl, (blk_cell BK142.out 0).trans rfl, (blk_cell BK142.out 1).trans rfl, (blk_cell BK142.out 2).trans rfl, (blk_cell BK142.out 3).trans rfl, (blk_cell BK142.out 4).trans rfl, (blk_cell BK142.out 5).trans rfl, (blk_cell BK142.out 6).trans rfl, (blk_cell BK101.out 0).trans rfl, (blk_cell BK101.out 1).trans rfl, (blk_cell BK101.out 2).trans rfl, (blk_cell BK101.out 3).trans rfl, (blk_cell BK101.out 4).trans rfl, (blk_cell BK159.out 0).trans rfl, (blk_cell BK159.out 1).trans rfl, (blk_cell BK159.out 2).trans rfl, (blk_cell BK159.out 3).trans rfl, (blk_cell BK159.out 4).trans rfl, (blk_cell BK176.out 0).trans rfl, (blk_cell BK176.out 1).trans rfl, (blk_cell BK176.out 2).trans rfl, (blk_cell BK176.out 3).trans rfl, (blk_cell BK176.out 4).trans rfl⟩ (fun hHeld => ?_)
         clear hK K
         refine norm_ (a' := ?_) ?_ ?_
         rotate_left
         ·
          show Act.put _ (some 96) _ = _
          simp only [Act.put, List.setIfInBounds_toArray, List.set_cons_zero, List.set_cons_succ, i64_w, i32_w]
          rfl
         refine one_ (i := 44) (N := some 97) (bm 47 35184372088831) rfl rfl (one_of HT_.out (by kernel_rfl)) (by decide) (fun K hK => ?_)
         refine goes_ Try.func17 (by kernel_rfl) rfl #[.agg #[.slice Ao74 t177.length co74, .slice Ao75 t180.length co75, .slice Ao76 t183.length co76, .slice Ao77 t186.length co77, .slice Ao78 t189.length co78], .agg #[.slice Ao79 t192.length co79, .slice Ao80 t195.length co80, .slice Ao81 t198.length co81, .slice Ao82 t201.length co82, .slice Ao83 t204.length co83]] (by rfl) rfl rfl (by (try simp only [List.map_toArray, List.map_cons, List.map_nil]); first | done | rfl | (simp only [List.length_drop, List.length_take]; rfl)) ?_
         with_reducible refine (longcaseref06_Same.calls _ _ t177 _ _ t180 _ _ t183 _ _ t186 _ _ t189 _ _ t192 _ _ t195 _ _ t198 _ _ t201 _ _ t204 t207 _ ?side1 ?side2 ?side3 ?side4 ?side5 ?side6 ?side7 ?side8 ?side9 ?side10 ?side11 ?side12 ?side13 ?side14 ?side15 ?side16 ?side17 ?side18 ?side19 ?side20 A20.out).mono ?_
         (case side1 => repeat (first | exact (Kd.R_reads' HO179.out).2.2 | (with_reducible refine Kd.C_alloc ?_ _) | (with_reducible refine Kd.C_drewN ?_ _) | (with_reducible refine Kd.C_drew ?_)))
         (case side2 => exact (Kd.R_reads' HO179.out).2.1)
         (case side3 => repeat (first | exact (Kd.R_reads' HO182.out).2.2 | (with_reducible refine Kd.C_alloc ?_ _) | (with_reducible refine Kd.C_drewN ?_ _) | (with_reducible refine Kd.C_drew ?_)))
         (case side4 => exact (Kd.R_reads' HO182.out).2.1)
         (case side5 => repeat (first | exact (Kd.R_reads' HO185.out).2.2 | (with_reducible refine Kd.C_alloc ?_ _) | (with_reducible refine Kd.C_drewN ?_ _) | (with_reducible refine Kd.C_drew ?_)))
         (case side6 => exact (Kd.R_reads' HO185.out).2.1)
         (case side7 => repeat (first | exact (Kd.R_reads' HO188.out).2.2 | (with_reducible refine Kd.C_alloc ?_ _) | (with_reducible refine Kd.C_drewN ?_ _) | (with_reducible refine Kd.C_drew ?_)))
         (case side8 => exact (Kd.R_reads' HO188.out).2.1)
         (case side9 => repeat (first | exact (Kd.R_reads' HO191.out).2.2 | (with_reducible refine Kd.C_alloc ?_ _) | (with_reducible refine Kd.C_drewN ?_ _) | (with_reducible refine Kd.C_drew ?_)))
         (case side10 => exact (Kd.R_reads' HO191.out).2.1)
         (case side11 => repeat (first | exact (Kd.R_reads' HO194.out).2.2 | (with_reducible refine Kd.C_alloc ?_ _) | (with_reducible refine Kd.C_drewN ?_ _) | (with_reducible refine Kd.C_drew ?_)))
         (case side12 => exact (Kd.R_reads' HO194.out).2.1)
         (case side13 => repeat (first | exact (Kd.R_reads' HO197.out).2.2 | (with_reducible refine Kd.C_alloc ?_ _) | (with_reducible refine Kd.C_drewN ?_ _) | (with_reducible refine Kd.C_drew ?_)))
         (case side14 => exact (Kd.R_reads' HO197.out).2.1)
         (case side15 => repeat (first | exact (Kd.R_reads' HO200.out).2.2 | (with_reducible refine Kd.C_alloc ?_ _) | (with_reducible refine Kd.C_drewN ?_ _) | (with_reducible refine Kd.C_drew ?_)))
         (case side16 => exact (Kd.R_reads' HO200.out).2.1)
         (case side17 => repeat (first | exact (Kd.R_reads' HO203.out).2.2 | (with_reducible refine Kd.C_alloc ?_ _) | (with_reducible refine Kd.C_drewN ?_ _) | (with_reducible refine Kd.C_drew ?_)))
         (case side18 => exact (Kd.R_reads' HO203.out).2.1)
         (case side19 => repeat (first | exact (Kd.R_reads' HO206.out).2.2 | (with_reducible refine Kd.C_alloc ?_ _) | (with_reducible refine Kd.C_drewN ?_ _) | (with_reducible refine Kd.C_drew ?_)))
         (case side20 => exact (Kd.R_reads' HO206.out).2.1)
         rintro e w84 ⟨rfl, hb⟩
         refine ⟨_, rfl, ?_⟩
         have n0_ := krb HO105 hb
         have n1_ := krb HO108 hb
         have n2_ := krb HO111 hb
         have n3_ := krb HO114 hb
         have n4_ := krb HO117 hb
         have n5_ := krb HO121 hb
         have n6_ := krb HO133 hb
         have n7_ := krb HO145 hb
         have n8_ := krb HO148 hb
         have n9_ := krb HO151 hb
         have n10_ := krb HO154 hb
         have n11_ := krb HO157 hb
         have n12_ := krb HO162 hb
         have n13_ := krb HO165 hb
         have n14_ := krb HO168 hb
         have n15_ := krb HO171 hb
         have n16_ := krb HO174 hb
         have n17_ := krb HO179 hb
         have n18_ := krb HO182 hb
         have n19_ := krb HO185 hb
         have n20_ := krb HO188 hb
         have n21_ := krb HO191 hb
         have n22_ := krb HO194 hb
         have n23_ := krb HO197 hb
         have n24_ := krb HO200 hb
         have n25_ := krb HO203 hb
         have n26_ := krb HO206 hb
         have n27_ := kbb BK101 hb
         have n28_ := kbb BK130 hb
         have n29_ := kbb BK142 hb
         have n30_ := kbb BK159 hb
         have n31_ := kbb BK176 hb
         have n32_ := Aside0.mk (below_step (by repeat (first | (with_reducible first | exact HB.out | apply below_alloc | apply pw_below_drewN | apply below_drew1 | refine below_set ?_ GE101.out | refine below_set ?_ GE130.out | refine below_set ?_ GE142.out | refine below_set ?_ GE159.out | refine below_set ?_ GE176.out) | exact HB.out)) hb)
         clear HO105
         clear HO108
         clear HO111
         clear HO114
         clear HO117
         clear HO121
         clear HO133
         clear HO145
         clear HO148
         clear HO151
         clear HO154
         clear HO157
         clear HO162
         clear HO165
         clear HO168
         clear HO171
         clear HO174
         clear HO179
         clear HO182
         clear HO185
         clear HO188
         clear HO191
         clear HO194
         clear HO197
         clear HO200
         clear HO203
         clear HO206
         clear BK101
         clear BK130
         clear BK142
         clear BK159
         clear BK176
         clear HB
         have HO105 := n0_
         have HO108 := n1_
         have HO111 := n2_
         have HO114 := n3_
         have HO117 := n4_
         have HO121 := n5_
         have HO133 := n6_
         have HO145 := n7_
         have HO148 := n8_
         have HO151 := n9_
         have HO154 := n10_
         have HO157 := n11_
         have HO162 := n12_
         have HO165 := n13_
         have HO168 := n14_
         have HO171 := n15_
         have HO174 := n16_
         have HO179 := n17_
         have HO182 := n18_
         have HO185 := n19_
         have HO188 := n20_
         have HO191 := n21_
         have HO194 := n22_
         have HO197 := n23_
         have HO200 := n24_
         have HO203 := n25_
         have HO206 := n26_
         have BK101 := n27_
         have BK130 := n28_
         have BK142 := n29_
         have BK159 := n30_
         have BK176 := n31_
         have HB := n32_
         clear n0_ n1_ n2_ n3_ n4_ n5_ n6_ n7_ n8_ n9_ n10_ n11_ n12_ n13_ n14_ n15_ n16_ n17_ n18_ n19_ n20_ n21_ n22_ n23_ n24_ n25_ n26_ n27_ n28_ n29_ n30_ n31_ n32_
         (try clear hb)
         (try clear hb2)
         (try clear hk)
         (try clear hi)
         refine hK.out _ _ ⟨(blk_cell BK130.out 0).trans rfl, (blk_cell BK130.out 1).trans rfl, (blk_cell BK130.out 2).trans rfl, (blk_cell BK130.out 3).trans rfl, (blk_cell BK130.out 4).trans rfl, (blk_cell BK130.out 5).trans rfl, (blk_cell BK130.out 6).trans rfl, (blk_cell BK142.out 0).trans rfl, (blk_cell BK142.out 1).trans rfl, (blk_cell BK142.out 2).trans rfl, (blk_cell BK142.out 3).trans rfl, (blk_cell BK142.out 4).trans rfl, (blk_cell BK142.out 5).trans rfl, (blk_cell BK142.out 6).trans rfl, (blk_cell BK101.out 0).trans rfl, (blk_cell BK101.out 1).trans rfl, (blk_cell BK101.out 2).trans rfl, (blk_cell BK101.out 3).trans rfl, (blk_cell BK101.out 4).trans rfl, (blk_cell BK159.out 0).trans rfl, (blk_cell BK159.out 1).trans rfl, (blk_cell BK159.out 2).trans rfl, (blk_cell BK159.out 3).trans rfl, (blk_cell BK159.out 4).trans rfl, (blk_cell BK176.out 0).trans rfl, (blk_cell BK176.out 1).trans rfl, (blk_cell BK176.out 2).trans rfl, (blk_cell BK176.out 3).trans rfl, (blk_cell BK176.out 4).trans rfl⟩ (fun hHeld => ?_)
         clear hK K
         refine norm_ (a' := ?_) ?_ ?_
         rotate_left
         ·
          show Act.put _ (some 97) _ = _
          simp only [Act.put, List.setIfInBounds_toArray, List.set_cons_zero, List.set_cons_succ, i64_w, i32_w]
          rfl
         refine pure_ (i := 45) (N := some 98) (v := ?_) (a' := ?_) (bm 47 70368744177663) rfl rfl (any_of HT_.out (by kernel_rfl)) (fun _ _ _ h => h) (Or.inl ⟨by rfl, ?_⟩) ?_ ?_
         rotate_left
         ·
          intro w'
          go_simp
          with_reducible rfl
         rotate_left
         ·
          simp only [Act.put, List.setIfInBounds_toArray, List.set_cons_zero, List.set_cons_succ, i64_w, i32_w]
          rfl
         refine pure_ (i := 46) (N := some 4) (v := ?_) (a' := ?_) (bm 47 140737488355327) rfl rfl (any_of HT_.out (by kernel_rfl)) (fun _ _ _ h => h) (Or.inl ⟨by rfl, ?_⟩) ?_ ?_
         rotate_left
         ·
          intro w'
          go_simp
          with_reducible rfl
         rotate_left
         ·
          simp only [Act.put, List.setIfInBounds_toArray, List.set_cons_zero, List.set_cons_succ, i64_w, i32_w]
          rfl
         refine done_ (done_of HT_.out (by kernel_rfl)) ?_
         try go_wp2
         go_ret
         exact ⟨by first | rfl | (simp [errW_none, errW_some] <;> rfl) | (simp [*, errW_none, errW_some] <;> rfl), by repeat (first | (with_reducible first | exact HB.out | apply below_alloc | apply pw_below_drewN | apply below_drew1 | refine below_set ?_ GE101.out | refine below_set ?_ GE130.out | refine below_set ?_ GE142.out | refine below_set ?_ GE159.out | refine below_set ?_ GE176.out) | exact HB.out)⟩
        ·
         rw [if_neg c17] at H
         have c17b0 : (t175 == 0) = false := beq_eq_false_iff_ne.mpr c17
         have c17b1 : (t175 != 0) = true := bne_iff_ne.mpr c17
         exact Bool.noConfusion ((Option.some.inj H).trans HRT.out)
       ·
        rw [if_neg c16] at H
        have c16b0 : (t158 == 0) = false := beq_eq_false_iff_ne.mpr c16
        have c16b1 : (t158 != 0) = true := bne_iff_ne.mpr c16
        exact Bool.noConfusion ((Option.some.inj H).trans HRT.out)
      ·
       rw [if_neg c15] at H
       have c15b0 : ((t131.length : Int) == (wrap64 ((wrap64 ((t119.length : Int) + (wrap64 (4 * (t106.length : Int))))) + (wrap64 (4 * (t109.length : Int)))))) = false := beq_eq_false_iff_ne.mpr c15
       have c15b1 : ((t131.length : Int) != (wrap64 ((wrap64 ((t119.length : Int) + (wrap64 (4 * (t106.length : Int))))) + (wrap64 (4 * (t109.length : Int)))))) = true := bne_iff_ne.mpr c15
       exact Bool.noConfusion ((Option.some.inj H).trans HRT.out)
     ·
      rw [if_neg c14] at H
      have c14b0 : (t122 == t134 && (t123 == t135 && (t124 == t136 && (t125 == t137 && (t126 == t138 && (t127 == t139 && (t128 == t140))))))) = false := by simpa using c14
      (try (have c14b1 : decide (t122 = t134 && (t123 == t135 && (t124 == t136 && (t125 == t137 && (t126 == t138 && (t127 == t139 && (t128 == t140))))))) = false := by simpa using c14))
      (try (have c14b2 : (t122 == t134 && (t123 == t135 && (t124 == t136 && (t125 == t137 && (t126 == t138 && (t127 == t139 && (t128 == t140))))))) = false := by simpa using c14))
      (try (have c14b3 : ¬ (t122 = t134 && (t123 == t135 && (t124 == t136 && (t125 == t137 && (t126 == t138 && (t127 == t139 && (t128 == t140))))))) := by simpa using c14))
      clear c14
      exact Bool.noConfusion ((Option.some.inj H).trans HRT.out)
    ·
     rw [if_neg c13] at H
     have c13b0 : (t141 == 0) = false := beq_eq_false_iff_ne.mpr c13
     have c13b1 : (t141 != 0) = true := bne_iff_ne.mpr c13
     exact Bool.noConfusion ((Option.some.inj H).trans HRT.out)
   ·
    rw [if_neg c12] at H
    have c12b0 : (t129 == 0) = false := beq_eq_false_iff_ne.mpr c12
    have c12b1 : (t129 != 0) = true := bne_iff_ne.mpr c12
    exact Bool.noConfusion ((Option.some.inj H).trans HRT.out)
  ·
   replace c11 := Bool.eq_false_iff.mpr c11
   subst c11
   have H1 : (some false) = some r := by rw [if_neg (show ¬ (false = true) by decide)] at H; exact H
   clear H
   have H := H1
   clear H1
   exact Bool.noConfusion ((Option.some.inj H).trans HRT.out)
 ·
  replace c6 := Bool.eq_false_iff.mpr c6
  subst c6
  have H1 : (some t102) = some r := by rw [if_neg (show ¬ (false = true) by decide)] at H; exact H
  clear H
  have H := H1
  clear H1
  obtain rfl := Option.some.inj H
  go_enter Try.func6, Try.ntmps6
  go_wp2_with (first | ((with_reducible refine gate_dst (N := 2) rfl ?_); (try (refine gate_guard (by rfl) ?_; dsimp only)); refine box_event ?hg (N := 2) ?hd (cs := #[.slice A0_0 l0_0.length c0_0, .slice A0_1 l0_1.length c0_1, .slice A0_2 l0_2.length c0_2, .slice A0_3 l0_3.length c0_3, .slice A0_4 l0_4.length c0_4]) (t := 27) ?hr ?_; (case hd => rfl); (case hg => rfl); (case hr => first | (go_simp; done) | (go_simp; rfl)); intro gb101 hg w442 hbox hb; have n0_ := Aside0.mk (below_step (by repeat (first | (with_reducible first | exact HB.out | apply below_alloc | apply pw_below_drewN | apply below_drew1) | exact HB.out)) hb); have n1_ := Aside0.mk (hbox); have n2_ := Aside0.mk ((by rw [hg]; exact (below_size (by repeat (first | (with_reducible first | exact HB.out | apply below_alloc | apply pw_below_drewN | apply below_drew1) | exact HB.out))) : w.heap.size ≤ gb101)); have n3_ := Aside0.mk ((by rw [hg]; exact (below_size (by repeat (first | (with_reducible first | exact HB.out | apply below_alloc | apply pw_below_drewN | apply below_drew1) | exact HB.out))) : w.heap.size ≤ gb101)); clear HB; have HB := n0_; have BK101 := n1_; have GW101 := n2_; have GE101 := n3_; clear n0_ n1_ n2_ n3_; clear hb hbox hg) | ((with_reducible refine gate_callee (f := 11) rfl ?_); refine goesL_ (some 16) rfl rfl Try.func11 (by kernel_rfl) rfl #[] rfl (by (try simp only [List.map_toArray, List.map_cons, List.map_nil]); first | done | rfl | (simp only [List.length_drop, List.length_take]; rfl)) ?_; (with_reducible refine (longcaselaw06_shown.calls  t102 _ A3.out).mono ?_); rintro e w443 ⟨rfl, hb⟩; refine ⟨_, rfl, ?_⟩; have n0_ := kbb BK101 hb; have n1_ := Aside0.mk (below_step (by repeat (first | (with_reducible first | exact HB.out | apply below_alloc | apply pw_below_drewN | apply below_drew1 | refine below_set ?_ GE101.out) | exact HB.out)) hb); clear BK101; clear HB; have BK101 := n0_; have HB := n1_; clear n0_ n1_; (try clear hb); (try clear hb2); (try clear hk); (try clear hi); have hcz444_0 := kc BK101 0 rfl; have hcz444_1 := kc BK101 1 rfl; have hcz444_2 := kc BK101 2 rfl; have hcz444_3 := kc BK101 3 rfl; have hcz444_4 := kc BK101 4 rfl; have hfz444_0 := blk_frozen BK101.out 0; have hfz444_1 := blk_frozen BK101.out 1; have hfz444_2 := blk_frozen BK101.out 2; have hfz444_3 := blk_frozen BK101.out 3; have hfz444_4 := blk_frozen BK101.out 4) | ((with_reducible refine gate_callee (f := 12) rfl ?_); refine goesL_ (some 18) rfl rfl Try.func12 (by kernel_rfl) rfl #[.agg #[.slice A0_0 l0_0.length c0_0, .slice A0_1 l0_1.length c0_1, .slice A0_2 l0_2.length c0_2, .slice A0_3 l0_3.length c0_3, .slice A0_4 l0_4.length c0_4]] rfl (by (try simp only [List.map_toArray, List.map_cons, List.map_nil]); first | done | rfl | (simp only [List.length_drop, List.length_take]; rfl)) ?_; (with_reducible refine (longcaselaw06_few.calls _ _ l0_0 _ _ l0_1 _ _ l0_2 _ _ l0_3 _ _ l0_4 t103 t106 t109 t112 t115 _ ?side1 ?side2 ?side3 ?side4 ?side5 ?side6 ?side7 ?side8 ?side9 ?side10 A4.out).mono ?_); (case side1 => repeat (first | exact (Kd.C_below HR0_0.out HB.out) | (with_reducible refine Kd.C_alloc ?_ _) | (with_reducible refine Kd.C_drewN ?_ _) | (with_reducible refine Kd.C_drew ?_))); (case side2 => exact HC0_0.out); (case side3 => repeat (first | exact (Kd.C_below HR0_1.out HB.out) | (with_reducible refine Kd.C_alloc ?_ _) | (with_reducible refine Kd.C_drewN ?_ _) | (with_reducible refine Kd.C_drew ?_))); (case side4 => exact HC0_1.out); (case side5 => repeat (first | exact (Kd.C_below HR0_2.out HB.out) | (with_reducible refine Kd.C_alloc ?_ _) | (with_reducible refine Kd.C_drewN ?_ _) | (with_reducible refine Kd.C_drew ?_))); (case side6 => exact HC0_2.out); (case side7 => repeat (first | exact (Kd.C_below HR0_3.out HB.out) | (with_reducible refine Kd.C_alloc ?_ _) | (with_reducible refine Kd.C_drewN ?_ _) | (with_reducible refine Kd.C_drew ?_))); (case side8 => exact HC0_3.out); (case side9 => repeat (first | exact (Kd.C_below HR0_4.out HB.out) | (with_reducible refine Kd.C_alloc ?_ _) | (with_reducible refine Kd.C_drewN ?_ _) | (with_reducible refine Kd.C_drew ?_))); (case side10 => exact HC0_4.out); rintro e w445 ⟨v104, v107, v110, v113, v116, rfl, ho0, ho1, ho2, ho3, ho4, hb⟩; refine ⟨_, rfl, ?_⟩; have n0_ := Aside0.mk (Kd.R_lower ho0 (below_size (by repeat (first | (with_reducible first | exact HB.out | apply below_alloc | apply pw_below_drewN | apply below_drew1 | refine below_set ?_ GE101.out) | exact HB.out)))); have n1_ := Aside0.mk (Kd.R_lower ho1 (below_size (by repeat (first | (with_reducible first | exact HB.out | apply below_alloc | apply pw_below_drewN | apply below_drew1 | refine below_set ?_ GE101.out) | exact HB.out)))); have n2_ := Aside0.mk (Kd.R_lower ho2 (below_size (by repeat (first | (with_reducible first | exact HB.out | apply below_alloc | apply pw_below_drewN | apply below_drew1 | refine below_set ?_ GE101.out) | exact HB.out)))); have n3_ := Aside0.mk (Kd.R_lower ho3 (below_size (by repeat (first | (with_reducible first | exact HB.out | apply below_alloc | apply pw_below_drewN | apply below_drew1 | refine below_set ?_ GE101.out) | exact HB.out)))); have n4_ := Aside0.mk (Kd.R_lower ho4 (below_size (by repeat (first | (with_reducible first | exact HB.out | apply below_alloc | apply pw_below_drewN | apply below_drew1 | refine below_set ?_ GE101.out) | exact HB.out)))); have n5_ := kbb BK101 hb; have n6_ := Aside0.mk (below_step (by repeat (first | (with_reducible first | exact HB.out | apply below_alloc | apply pw_below_drewN | apply below_drew1 | refine below_set ?_ GE101.out) | exact HB.out)) hb); clear BK101; clear HB; have HO105 := n0_; have HO108 := n1_; have HO111 := n2_; have HO114 := n3_; have HO117 := n4_; have BK101 := n5_; have HB := n6_; clear n0_ n1_ n2_ n3_ n4_ n5_ n6_; (try clear hb); (try clear hb2); (try clear hk); (try clear hi); (try clear ho0); (try clear ho1); (try clear ho2); (try clear ho3); (try clear ho4); obtain ⟨Ao446, co446, eo446⟩ := Kd.R_slice HO105.out; subst eo446; have hcz447_0 := kc BK101 0 rfl; have hcz447_1 := kc BK101 1 rfl; have hcz447_2 := kc BK101 2 rfl; have hcz447_3 := kc BK101 3 rfl; have hcz447_4 := kc BK101 4 rfl; have hfz447_0 := blk_frozen BK101.out 0; have hfz447_1 := blk_frozen BK101.out 1; have hfz447_2 := blk_frozen BK101.out 2; have hfz447_3 := blk_frozen BK101.out 3; have hfz447_4 := blk_frozen BK101.out 4; obtain ⟨Ao448, co448, eo448⟩ := Kd.R_slice HO108.out; subst eo448; obtain ⟨Ao449, co449, eo449⟩ := Kd.R_slice HO111.out; subst eo449; obtain ⟨Ao450, co450, eo450⟩ := Kd.R_slice HO114.out; subst eo450; obtain ⟨Ao451, co451, eo451⟩ := Kd.R_slice HO117.out; subst eo451) | ((with_reducible refine gate_callee (f := 16) rfl ?_); refine goesL_ (some 24) rfl rfl Try.func16 (by kernel_rfl) rfl #[.agg #[.slice Ao446 t103.length co446, .slice Ao448 t106.length co448, .slice Ao449 t109.length co449, .slice Ao450 t112.length co450, .slice Ao451 t115.length co451], .int .i64 4, .int .i64 (wrap64 (1 + (Go.bits .and .i64 a1 3)))] rfl (by (try simp only [List.map_toArray, List.map_cons, List.map_nil]); first | done | rfl | (simp only [List.length_drop, List.length_take]; rfl)) ?_; (with_reducible refine (block_Right.calls _ _ t103 _ _ t106 _ _ t109 _ _ t112 _ _ t115 4 (wrap64 (1 + (Go.bits .and .i64 a1 3))) false _ ?side1 ?side2 ?side3 ?side4 ?side5 ?side6 ?side7 ?side8 ?side9 ?side10 A5.out).mono ?_); (case side1 => refine (Kd.R_reads' (e := 56) (base := w.heap.size) (ok := fun k_ => True) (n := t103.length) (c := co446) ?_).2.2; exact (by (with_reducible repeat (first | apply Kd.R_alloc | apply Kd.R_drewN | apply Kd.R_drew)); exact (rp5 HO105 BK101))); (case side2 => exact (Kd.R_reads' HO105.out).2.1); (case side3 => refine (Kd.R_reads' (e := 54) (base := w.heap.size) (ok := fun k_ => True) (n := t106.length) (c := co448) ?_).2.2; exact (by (with_reducible repeat (first | apply Kd.R_alloc | apply Kd.R_drewN | apply Kd.R_drew)); exact (rp5 HO108 BK101))); (case side4 => exact (Kd.R_reads' HO108.out).2.1); (case side5 => refine (Kd.R_reads' (e := 67) (base := w.heap.size) (ok := fun k_ => True) (n := t109.length) (c := co449) ?_).2.2; exact (by (with_reducible repeat (first | apply Kd.R_alloc | apply Kd.R_drewN | apply Kd.R_drew)); exact (rp5 HO111 BK101))); (case side6 => exact (Kd.R_reads' HO111.out).2.1); (case side7 => refine (Kd.R_reads' (e := 4) (base := w.heap.size) (ok := fun k_ => some k_ ≠ (.slice Ao451 t115.length co451 : Value).ownBlock) (n := t112.length) (c := co450) ?_).2.2; exact (by (with_reducible repeat (first | apply Kd.R_alloc | apply Kd.R_drewN | apply Kd.R_drew)); exact (rp5 HO114 BK101))); (case side8 => exact (Kd.R_reads' HO114.out).2.1); (case side9 => refine (Kd.R_reads' (e := 4) (base := w.heap.size) (ok := fun k_ => some k_ ≠ (.slice Ao450 t112.length co450 : Value).ownBlock) (n := t115.length) (c := co451) ?_).2.2; exact (by (with_reducible repeat (first | apply Kd.R_alloc | apply Kd.R_drewN | apply Kd.R_drew)); exact (rp5 HO117 BK101))); (case side10 => exact (Kd.R_reads' HO117.out).2.1); rintro e w452 ⟨rfl, hb⟩; refine ⟨_, rfl, ?_⟩; have n0_ := Aside0.mk (Kd.R_below (by (with_reducible repeat (first | apply Kd.R_alloc | apply Kd.R_drewN | apply Kd.R_drew)); exact (rp5 HO105 BK101)) hb); have n1_ := Aside0.mk (Kd.R_below (by (with_reducible repeat (first | apply Kd.R_alloc | apply Kd.R_drewN | apply Kd.R_drew)); exact (rp5 HO108 BK101)) hb); have n2_ := Aside0.mk (Kd.R_below (by (with_reducible repeat (first | apply Kd.R_alloc | apply Kd.R_drewN | apply Kd.R_drew)); exact (rp5 HO111 BK101)) hb); have n3_ := Aside0.mk (Kd.R_below (by (with_reducible repeat (first | apply Kd.R_alloc | apply Kd.R_drewN | apply Kd.R_drew)); exact (rp5 HO114 BK101)) hb); have n4_ := Aside0.mk (Kd.R_below (by (with_reducible repeat (first | apply Kd.R_alloc | apply Kd.R_drewN | apply Kd.R_drew)); exact (rp5 HO117 BK101)) hb); have n5_ := Aside0.mk (blk_below (g := gb101) (o := .cells #[.slice Ao446 t103.length co446, .slice Ao448 t106.length co448, .slice Ao449 t109.length co449, .slice Ao450 t112.length co450, .slice Ao451 t115.length co451] 27 (0, 0)) (by (with_reducible repeat (first | refine blk_drewN ?_ _ | refine blk_drew ?_ | refine blk_alloc ?_ _)); refine blk_put (cs := #[.slice Ao446 t103.length co446, .slice Ao448 t106.length co448, .slice Ao449 t109.length co449, .slice Ao450 t112.length co450, .slice A0_4 l0_4.length c0_4]) ?_ 4 _ rfl; (with_reducible repeat (first | refine blk_drewN ?_ _ | refine blk_drew ?_ | refine blk_alloc ?_ _)); refine blk_put (cs := #[.slice Ao446 t103.length co446, .slice Ao448 t106.length co448, .slice Ao449 t109.length co449, .slice A0_3 l0_3.length c0_3, .slice A0_4 l0_4.length c0_4]) ?_ 3 _ rfl; (with_reducible repeat (first | refine blk_drewN ?_ _ | refine blk_drew ?_ | refine blk_alloc ?_ _)); refine blk_put (cs := #[.slice Ao446 t103.length co446, .slice Ao448 t106.length co448, .slice A0_2 l0_2.length c0_2, .slice A0_3 l0_3.length c0_3, .slice A0_4 l0_4.length c0_4]) ?_ 2 _ rfl; (with_reducible repeat (first | refine blk_drewN ?_ _ | refine blk_drew ?_ | refine blk_alloc ?_ _)); refine blk_put (cs := #[.slice Ao446 t103.length co446, .slice A0_1 l0_1.length c0_1, .slice A0_2 l0_2.length c0_2, .slice A0_3 l0_3.length c0_3, .slice A0_4 l0_4.length c0_4]) ?_ 1 _ rfl; (with_reducible repeat (first | refine blk_drewN ?_ _ | refine blk_drew ?_ | refine blk_alloc ?_ _)); refine blk_put (cs := #[.slice A0_0 l0_0.length c0_0, .slice A0_1 l0_1.length c0_1, .slice A0_2 l0_2.length c0_2, .slice A0_3 l0_3.length c0_3, .slice A0_4 l0_4.length c0_4]) ?_ 0 _ rfl; (with_reducible repeat (first | refine blk_drewN ?_ _ | refine blk_drew ?_ | refine blk_alloc ?_ _)); exact BK101.out) hb); have n6_ := Aside0.mk (below_step (by repeat (first | (with_reducible first | exact HB.out | apply below_alloc | apply pw_below_drewN | apply below_drew1 | refine below_set ?_ GE101.out) | exact HB.out)) hb); clear HO105; clear HO108; clear HO111; clear HO114; clear HO117; clear BK101; clear HB; have HO105 := n0_; have HO108 := n1_; have HO111 := n2_; have HO114 := n3_; have HO117 := n4_; have BK101 := n5_; have HB := n6_; clear n0_ n1_ n2_ n3_ n4_ n5_ n6_; (try clear hb); (try clear hb2); (try clear hk); (try clear hi)))
  go_ret
  exact ⟨by first | rfl | (simp [errW_none, errW_some] <;> rfl) | (simp [*, errW_none, errW_some] <;> rfl), by repeat (first | (with_reducible first | exact HB.out | apply below_alloc | apply pw_below_drewN | apply below_drew1 | refine below_set ?_ GE101.out) | exact HB.out)⟩
end Go.Proofs.Ythobnoknbdljgaa.PL2
end
section
namespace Go.Proofs.Ythobnoknbdljgaa
open Go.RowKit Hand PB0 Go.Proofs.YthobnoknbdljgaaW.PrintWords Oct
structure NmInv (st : NmS) (l : List ByteArray) : Prop where
 place : ∀ s p, st.2.1 s = some p → ∃ pre post : List UInt8, st.1 = pre ++ s.data.toList ++ 0 :: post ∧ pre.length = p
 at_ : ∀ i (h : i < l.length), ∃ p, st.2.1 l[i] = some p ∧ st.2.2[i]? = some ((p : Int) % 256)
 len : st.2.2.length = l.length
theorem nm_inv (l : List ByteArray) : NmInv (nmSt l) l := by
 induction l using rev_ind with
 | h0 => exact ⟨fun s p h => (by cases h), fun i h => absurd h (Nat.not_lt_zero i), rfl⟩
 | hs l s ih =>
  rw [nmSt_snoc]
  have fin : ∀ (st' : NmS) (p : Nat), st'.2.1 s = some p → (∀ t q, (nmSt l).2.1 t = some q → st'.2.1 t = some q) → st'.2.2 = (nmSt l).2.2 ++ [((p : Nat) : Int) % 256] →
    (∀ s p, st'.2.1 s = some p → ∃ pre post : List UInt8, st'.1 = pre ++ s.data.toList ++ 0 :: post ∧ pre.length = p) → NmInv st' (l ++ [s]) := by
   intro st' p h1 h2 h3 h4
   refine ⟨h4, ?_, by rw [h3, List.length_append, List.length_append, ih.len]; rfl⟩
   intro i hi
   rw [List.length_append] at hi
   by_cases hlt : i < l.length
   ·
    obtain ⟨q, hq, hat⟩ := ih.at_ i hlt
    refine ⟨q, ?_, ?_⟩
    ·
     rw [List.getElem_append_left hlt]
     exact h2 _ _ hq
    ·
     rw [h3, List.getElem?_append_left (by rw [ih.len]; exact hlt)]
     exact hat
   ·
    have e : i = l.length := by simp at hi; omega
    subst e
    refine ⟨p, ?_, ?_⟩
    ·
     rw [List.getElem_append_right (Nat.le_refl _)]
     simpa using h1
    ·
     rw [h3, List.getElem?_append_right (by rw [ih.len]; exact Nat.le_refl _), ih.len]
     simp
  unfold nmStep
  split
  ·
   rename_i p hp
   exact fin _ p hp (fun t q h => h) rfl ih.place
  ·
   rename_i hn
   refine fin _ (nmSt l).1.length (by dsimp only; rw [if_pos rfl]) ?_ rfl ?_
   ·
    intro t q h
    dsimp only
    rw [if_neg (fun e => by rw [e, hn] at h; cases h)]
    exact h
   ·
    intro t q h
    dsimp only at h ⊢
    by_cases e : t = s
    ·
     subst e
     rw [if_pos rfl] at h
     injection h with h
     subst h
     exact ⟨(nmSt l).1, [], by simp, rfl⟩
    ·
     rw [if_neg e] at h
     obtain ⟨pre, post, h1, h2⟩ := ih.place t q h
     exact ⟨pre, post ++ s.data.toList ++ [0], by rw [h1]; simp, h2⟩
theorem idx_none (l : List UInt8) (h : Lib.indexByte l 0 < 0) : ∀ x ∈ l, x ≠ 0 := by
 induction l with
 | nil => intro x hx; cases hx
 | cons b l ih =>
  intro x hx
  rw [Lib.indexByte] at h
  by_cases hb : (b == 0) = true
  ·
   rw [if_pos hb] at h
   exact absurd h (by decide)
  ·
   rw [if_neg hb] at h
   by_cases hc : (Lib.indexByte l 0 == -1) = true
   ·
    rcases List.mem_cons.1 hx with rfl | hx
    ·
     intro e; rw [e] at hb; exact hb rfl
    ·
     exact ih (by rw [eq_of_beq hc]; decide) x hx
   ·
    rw [if_neg hc] at h
    rcases List.mem_cons.1 hx with rfl | hx
    ·
     intro e; rw [e] at hb; exact hb rfl
    ·
     exact ih (by omega) x hx
theorem idx_at (l post : List UInt8) (h : ∀ x ∈ l, x ≠ 0) : Lib.indexByte (l ++ 0 :: post) 0 = l.length := by
 induction l with
 | nil => rfl
 | cons b l ih =>
  rw [List.cons_append, Lib.indexByte, if_neg (by
   intro e
   exact h b (List.mem_cons_self ..) (eq_of_beq e)), ih (fun x hx => h x (List.mem_cons_of_mem _ hx))]
  rw [if_neg (by intro e; have := eq_of_beq e; omega), List.length_cons]
  omega
theorem bytes_back (l : List UInt8) : Lib.bytesOf (l.map fun b => (b.toNat : Int)) = l := by
 unfold Lib.bytesOf
 rw [List.map_map]
 conv => rhs; rw [← List.map_id l]
 apply List.map_congr_left
 intro b _
 simp
theorem name_at (all pre post : List UInt8) (s : ByteArray) (p : Nat) (h1 : all = pre ++ s.data.toList ++ 0 :: post) (h2 : pre.length = p) (hs : Lib.indexByte s.data.toList 0 < 0) :
  nameI (bytesOf ⟨all.toArray⟩) (p : Int) = (s, true) := by
 have hz := idx_none _ hs
 have hb : bytesOf ⟨all.toArray⟩ = all.map fun b => (b.toNat : Int) := rfl
 have hl : p ≤ (bytesOf ⟨all.toArray⟩).length := by rw [hb, List.length_map, h1, List.length_append, List.length_append]; omega
 have hd : (bytesOf ⟨all.toArray⟩).drop p = (s.data.toList ++ 0 :: post).map fun b => (b.toNat : Int) := by
  rw [hb, ← List.map_drop, h1, List.append_assoc, List.drop_append_of_le_length (by omega), List.drop_of_length_le (by omega), List.nil_append]
 unfold nameI
 rw [if_neg (by omega), if_neg (by omega), Int.toNat_natCast, hd, bytes_back, idx_at _ _ hz, if_neg (by omega), Int.toNat_natCast]
 have ht : List.take s.data.toList.length (List.map (fun b : UInt8 => (b.toNat : Int)) (s.data.toList ++ 0 :: post)) = s.data.toList.map fun b => (b.toNat : Int) := by
  rw [← List.map_take, List.take_append_of_le_length (Nat.le_refl _), List.take_length]
 rw [ht]
 refine Prod.ext ?_ rfl
 dsimp only
 have e := Lib.strOfNums_toList (s.data.toList.map fun b => (b.toNat : Int))
 rw [bytes_back, ByteArray.toList_eq] at e
 obtain ⟨⟨s⟩⟩ := s
 generalize strOfNums _ = y at e ⊢
 obtain ⟨⟨y⟩⟩ := y
 simp only at e
 rw [e]
def fit (m : Nat) (n : Int) : Prop := -(256 ^ m) ≤ 2 * n ∧ 2 * n < 256 ^ m
theorem fit4 {n : Int} : fit 4 n ↔ -2147483648 ≤ n ∧ n ≤ 2147483647 := by unfold fit; rw [q4]; omega
theorem fit8 {n : Int} : fit 8 n ↔ -9223372036854775808 ≤ n ∧ n ≤ 9223372036854775807 := by unfold fit; rw [q8]; omega
theorem num_back (m : Nat) (hm : m = 4 ∨ m = 8) (n : Int) (h : fit m n) (rest : List Int) : numU m (be m (u64w n) ++ rest) = n := by
 unfold numU u64w
 rw [List.take_append_of_le_length (by rw [be_len]; exact Nat.le_refl _), List.take_of_length_le (by rw [be_len]; exact Nat.le_refl _), uval_bval _ (be_bytes m _) (by rw [be_len]; omega), bval_be]
 have hp := pow_pos' m
 have h0 := Int.emod_nonneg (IntKind.u64.wrap n) (b := 256 ^ m) (by omega)
 have h1 := Int.emod_lt_of_pos (IntKind.u64.wrap n) (b := 256 ^ m) hp
 rw [sgn_val m (by omega) (by omega) _ h0 h1, IntKind.wrap_u64]
 rcases hm with rfl | rfl
 ·
  rw [fit4] at h
  rw [q4]
  split <;> omega
 ·
  rw [fit8] at h
  rw [q8]
  split <;> omega
end Go.Proofs.Ythobnoknbdljgaa
end
section
namespace Go.Proofs.Ythobnoknbdljgaa
open Go.RowKit Hand PB0 Go.Proofs.YthobnoknbdljgaaW.PrintWords Oct
theorem drop_pre (X Y : List Int) (p q : Nat) (h : X.length = p) : (X ++ Y).drop (p + q) = Y.drop q := by
 subst h
 rw [← List.drop_drop, List.drop_append_of_le_length (Nat.le_refl _), List.drop_of_length_le (Nat.le_refl _), List.nil_append]
theorem flat_drop {α : Type} (f : α → List Int) (c : Nat) (l : List α) (h : ∀ x ∈ l, (f x).length = c) (i : Nat) (hi : i ≤ l.length) : (l.flatMap f).drop (c * i) = (l.drop i).flatMap f := by
 induction i generalizing l with
 | zero => simp
 | succ i ih =>
  cases l with
  | nil => simp at hi
  | cons x l =>
   have hx := h x (List.mem_cons_self ..)
   rw [List.flatMap_cons, List.drop_succ_cons, Nat.mul_succ, Nat.add_comm, drop_pre _ _ c (c * i) hx]
   exact ih l (fun y hy => h y (List.mem_cons_of_mem _ hy)) (by simp at hi; omega)
theorem flat_at {α : Type} (f : α → List Int) (c : Nat) (l : List α) (h : ∀ x ∈ l, (f x).length = c) (i : Nat) (hi : i < l.length) (rest : List Int) :
  (l.flatMap f ++ rest).drop (c * i) = f l[i] ++ ((l.drop (i + 1)).flatMap f ++ rest) := by
 have hl : (l.flatMap f).length = c * l.length := by
  rw [List.length_flatMap]
  clear hi
  induction l with
  | nil => rfl
  | cons x l ih => rw [List.map_cons, List.sum_cons, h x (List.mem_cons_self ..), ih (fun y hy => h y (List.mem_cons_of_mem _ hy)), List.length_cons, Nat.mul_succ, Nat.add_comm]
 have hc : c * i ≤ c * l.length := Nat.mul_le_mul_left c (Nat.le_of_lt hi)
 rw [List.drop_append_of_le_length (by omega), flat_drop f c l h i (Nat.le_of_lt hi), List.drop_eq_getElem_cons hi, List.flatMap_cons, List.append_assoc]
theorem flat_length {α : Type} (f : α → List Int) (c : Nat) (l : List α) (h : ∀ x ∈ l, (f x).length = c) : (l.flatMap f).length = c * l.length := by
 rw [List.length_flatMap]
 induction l with
 | nil => rfl
 | cons x l ih => rw [List.map_cons, List.sum_cons, h x (List.mem_cons_self ..), ih (fun y hy => h y (List.mem_cons_of_mem _ hy)), List.length_cons, Nat.mul_succ, Nat.add_comm]
theorem rd_zero (x : Int) (xs : List Int) : rd (x :: xs) 0 = x := rfl
theorem fits_fit {m : Nat} (hm : m = 4 ∨ m = 8) {n : Int} (h8 : fit 8 n) (hf : fitsB n m = true) : fit m n := by
 rcases hm with rfl | rfl
 ·
  unfold fitsB at hf
  rw [if_pos (show ((4 : Nat) : Int) = 4 from rfl)] at hf
  have e := eq_of_beq hf
  rw [fit4]
  rw [fit8] at h8
  unfold wrap64 wrap32 at e
  omega
 ·
  exact h8
theorem all_at {n : Nat} {f : Nat → Bool} (h : (List.range n).all f = true) {i : Nat} (hi : i < n) : f i = true := List.all_eq_true.mp h i (List.mem_range.2 hi)
theorem corr_bd (size version : Int) (l : List S67) (hw : ∀ x ∈ l, fit 8 x.f1) (h : leapedB size version l = true) : ∀ i (hi : i < l.length), -(i + 1 : Int) ≤ l[i].f1 ∧ l[i].f1 ≤ i + 1 := by
 unfold leapedB at h
 rw [Bool.and_eq_true, decide_eq_true_eq] at h
 intro i
 induction i with
 | zero =>
  intro hi
  have h0 := all_at h.1 hi
  have hw0 := fit8.1 (hw l[0] (List.getElem_mem hi))
  unfold lokB at h0
  simp only [Bool.and_eq_true, Bool.or_eq_true, beq_iff_eq] at h0
  obtain ⟨⟨_, hs⟩, _⟩ := h0
  have e : rd_T67 l ((0 : Nat) : Int) = l[0] := rd67 l 0 hi
  have es : stepL l 0 = wrap64 (l[0].f1 - 0) := by unfold stepL wasL; rw [e, if_pos rfl]
  have hq : wrap64 (l[0].f1 - 0) = l[0].f1 := by rw [Hand.w64 (by omega) (by omega)]; omega
  rw [es, hq] at hs
  rcases hs with (hs | hs) | hs
  ·
   omega
  ·
   omega
  ·
   unfold lastL at hs; simp at hs
 | succ i ih =>
  intro hi
  have hp := ih (by omega)
  have h0 := all_at h.1 hi
  have hw0 := fit8.1 (hw l[i + 1] (List.getElem_mem hi))
  have hw1 := fit8.1 (hw l[i] (List.getElem_mem (by omega)))
  have hlen := h.2
  unfold lokB at h0
  simp only [Bool.and_eq_true, Bool.or_eq_true, beq_iff_eq] at h0
  obtain ⟨⟨_, hs⟩, _⟩ := h0
  have e : rd_T67 l ((i + 1 : Nat) : Int) = l[i + 1] := rd67 l (i + 1) hi
  have e2 : rd_T67 l (((i + 1 - 1 : Nat)) : Int) = l[i] := rd67 l i (by omega)
  have es : stepL l (i + 1) = wrap64 (l[i + 1].f1 - l[i].f1) := by unfold stepL wasL; rw [e, if_neg (by omega), e2]
  have hx : stepL l (i + 1) = 1 ∨ stepL l (i + 1) = -1 ∨ stepL l (i + 1) = 0 := by
   rcases hs with (hs | hs) | hs
   ·
    exact .inl hs
   ·
    exact .inr (.inl hs)
   ·
    unfold lastL at hs
    simp only [Bool.and_eq_true, beq_iff_eq] at hs
    exact .inr (.inr hs.2)
  rw [es] at hx
  unfold wrap64 at hx
  omega
theorem encL_len (m : Nat) (K : List S56) (J : List S54) (L : List S67) (S U : List Bool) : (encL m K J L S U).length = bodyN m U.length S.length L.length J.length K.length (nmSt (names K)).1.length := by
 have hz : (K.zip (nmSt (names K)).2.2).length = K.length := by rw [List.length_zip, (nmSt_len _).2]; simp [names]
 unfold encL bodyN
 simp only [List.length_append]
 rw [flat_length (jA m) m J (fun x _ => jA_len m x), flat_length jB 1 J (fun x _ => rfl), flat_length kA 6 _ (fun x _ => kA_len x), flat_length (lA m) (m + 4) L (fun x _ => lA_len m x), tr_len, tr_len, bytesOf_length, sz_l, hz]
 have h1 : (m + 1) * J.length = m * J.length + J.length := by rw [Nat.add_mul, Nat.one_mul]
 omega
section
variable (m : Nat) (K : List S56) (J : List S54) (L : List S67) (S U : List Bool)
def pJA : List Int := J.flatMap (jA m)
def pJB : List Int := J.flatMap jB
def pK : List Int := (K.zip (nmSt (names K)).2.2).flatMap kA
def pN : List Int := bytesOf ⟨(nmSt (names K)).1.toArray⟩
def pL : List Int := L.flatMap (lA m)
theorem encL_parts : encL m K J L S U = pJA m J ++ (pJB J ++ (pK K ++ (pN K ++ (pL m L ++ (tr S ++ tr U))))) := by
 unfold encL pJA pJB pK pN pL
 simp only [List.append_assoc]
theorem pJA_len : (pJA m J).length = m * J.length := flat_length _ _ _ (fun x _ => jA_len m x)
theorem pJB_len : (pJB J).length = J.length := by unfold pJB; rw [flat_length jB 1 J (fun x _ => rfl), Nat.one_mul]
theorem zip_len : (K.zip (nmSt (names K)).2.2).length = K.length := by rw [List.length_zip, (nmSt_len _).2]; simp [names]
theorem pK_len : (pK K).length = 6 * K.length := by unfold pK; rw [flat_length kA 6 _ (fun x _ => kA_len x), zip_len]
theorem pN_len : (pN K).length = (nmSt (names K)).1.length := by unfold pN; rw [bytesOf_length, sz_l]
theorem pL_len : (pL m L).length = (m + 4) * L.length := flat_length _ _ _ (fun x _ => lA_len m x)
theorem at_o1 (q : Nat) : (encL m K J L S U).drop (o1 m J.length + q) = (pK K ++ (pN K ++ (pL m L ++ (tr S ++ tr U)))).drop q := by
 have h : o1 m J.length + q = m * J.length + (J.length + q) := by unfold o1; rw [Nat.add_mul]; omega
 rw [h, encL_parts, drop_pre _ _ _ _ (pJA_len m J), drop_pre _ _ _ _ (pJB_len J)]
theorem at_o2 (q : Nat) : (encL m K J L S U).drop (o2 m J.length K.length + q) = (pN K ++ (pL m L ++ (tr S ++ tr U))).drop q := by
 have h : o2 m J.length K.length + q = o1 m J.length + (6 * K.length + q) := by unfold o2; omega
 rw [h, at_o1, drop_pre _ _ _ _ (pK_len K)]
theorem at_o3 (q : Nat) : (encL m K J L S U).drop (o3 m J.length K.length (nmSt (names K)).1.length + q) = (pL m L ++ (tr S ++ tr U)).drop q := by
 have h : o3 m J.length K.length (nmSt (names K)).1.length + q = o2 m J.length K.length + ((nmSt (names K)).1.length + q) := by unfold o3; omega
 rw [h, at_o2, drop_pre _ _ _ _ (pN_len K)]
theorem at_o4 (q : Nat) : (encL m K J L S U).drop (o4 m L.length J.length K.length (nmSt (names K)).1.length + q) = (tr S ++ tr U).drop q := by
 have h : o4 m L.length J.length K.length (nmSt (names K)).1.length + q = o3 m J.length K.length (nmSt (names K)).1.length + ((m + 4) * L.length + q) := by unfold o4; omega
 rw [h, at_o3, drop_pre _ _ _ _ (pL_len m L)]
theorem at_o5 : (encL m K J L S U).drop (o5 m S.length L.length J.length K.length (nmSt (names K)).1.length) = tr U := by
 have h : o5 m S.length L.length J.length K.length (nmSt (names K)).1.length = o4 m L.length J.length K.length (nmSt (names K)).1.length + (S.length + 0) := by unfold o5; omega
 rw [h, at_o4, drop_pre _ _ _ _ (tr_len S), List.drop_zero]
theorem isOne_tr (l : List Bool) : isOne (tr l) = l := by
 unfold isOne tr
 rw [List.map_map]
 conv => rhs; rw [← List.map_id l]
 apply List.map_congr_left
 intro b _
 cases b <;> rfl
theorem allB_tr (l : List Bool) : allB (tr l) = true := by
 unfold allB tr
 rw [List.all_map, List.all_eq_true]
 intro b _
 cases b <;> rfl
theorem dS_eq : dS m S.length L.length J.length K.length (nmSt (names K)).1.length (encL m K J L S U) = tr S := by
 unfold dS
 have h := at_o4 m K J L S U 0
 rw [Nat.add_zero, List.drop_zero] at h
 rw [h, List.take_append_of_le_length (by rw [tr_len]; exact Nat.le_refl _), List.take_of_length_le (by rw [tr_len]; exact Nat.le_refl _)]
theorem dU_eq : dU m U.length S.length L.length J.length K.length (nmSt (names K)).1.length (encL m K J L S U) = tr U := by
 unfold dU
 rw [at_o5, List.take_of_length_le (by rw [tr_len]; exact Nat.le_refl _)]
theorem dNs_eq : dNs m J.length K.length (nmSt (names K)).1.length (encL m K J L S U) = pN K := by
 unfold dNs
 have h := at_o2 m K J L S U 0
 rw [Nat.add_zero, List.drop_zero] at h
 rw [h, List.take_append_of_le_length (by rw [pN_len]; exact Nat.le_refl _), List.take_of_length_le (by rw [pN_len]; exact Nat.le_refl _)]
theorem ext_range {α : Type} (l : List α) (f : Nat → α) (h : ∀ i (hi : i < l.length), f i = l[i]) : (List.range l.length).map f = l := by
 apply List.ext_getElem
 ·
  simp
 ·
  intro i h1 h2
  rw [List.getElem_map, List.getElem_range]
  exact h i h2
theorem wrap_small (n : Int) (h0 : 0 ≤ n) (h1 : n < 256) : wrap64 (n % 256) = n := by rw [Hand.w64 (by omega) (by omega)]; omega
theorem dJ_eq (hm : m = 4 ∨ m = 8) (hJ : ∀ j ∈ J, fit m j.f0 ∧ 0 ≤ j.f1 ∧ j.f1 < 256) : dJ m J.length (encL m K J L S U) = J := by
 unfold dJ
 refine ext_range J _ (fun i hi => ?_)
 obtain ⟨h1, h2, h3⟩ := hJ J[i] (List.getElem_mem hi)
 unfold jump1
 rw [encL_parts]
 have e1 : (pJA m J ++ (pJB J ++ (pK K ++ (pN K ++ (pL m L ++ (tr S ++ tr U)))))).drop (m * i) = jA m J[i] ++ ((J.drop (i + 1)).flatMap (jA m) ++ (pJB J ++ (pK K ++ (pN K ++ (pL m L ++ (tr S ++ tr U)))))) := flat_at (jA m) m J (fun x _ => jA_len m x) i hi _
 have e2 : (pJA m J ++ (pJB J ++ (pK K ++ (pN K ++ (pL m L ++ (tr S ++ tr U)))))).drop (m * J.length + i) = jB J[i] ++ ((J.drop (i + 1)).flatMap jB ++ (pK K ++ (pN K ++ (pL m L ++ (tr S ++ tr U))))) := by
  rw [drop_pre _ _ _ _ (pJA_len m J)]
  have := flat_at jB 1 J (fun x _ => rfl) i hi (pK K ++ (pN K ++ (pL m L ++ (tr S ++ tr U))))
  rw [Nat.one_mul] at this
  exact this
 rw [e1, e2]
 have e3 : numU m (jA m J[i] ++ ((J.drop (i + 1)).flatMap (jA m) ++ (pJB J ++ (pK K ++ (pN K ++ (pL m L ++ (tr S ++ tr U))))))) = J[i].f0 := num_back m hm _ h1 _
 have e4 : wrap64 (rd (jB J[i] ++ ((J.drop (i + 1)).flatMap jB ++ (pK K ++ (pN K ++ (pL m L ++ (tr S ++ tr U)))))) 0) = J[i].f1 := wrap_small _ h2 h3
 rw [e3, e4]
theorem dL_eq (hm : m = 4 ∨ m = 8) (hL : ∀ x ∈ L, fit m x.f0 ∧ fit 4 x.f1) : dL m L.length J.length K.length (nmSt (names K)).1.length (encL m K J L S U) = L := by
 unfold dL
 refine ext_range L _ (fun i hi => ?_)
 obtain ⟨h1, h2⟩ := hL L[i] (List.getElem_mem hi)
 unfold leap1
 have e1 : (encL m K J L S U).drop (o3 m J.length K.length (nmSt (names K)).1.length + (m + 4) * i) = lA m L[i] ++ ((L.drop (i + 1)).flatMap (lA m) ++ (tr S ++ tr U)) := by
  rw [at_o3]
  exact flat_at (lA m) (m + 4) L (fun x _ => lA_len m x) i hi _
 have e2 : (encL m K J L S U).drop (o3 m J.length K.length (nmSt (names K)).1.length + (m + 4) * i + m) = be 4 (u64w L[i].f1) ++ ((L.drop (i + 1)).flatMap (lA m) ++ (tr S ++ tr U)) := by
  rw [← List.drop_drop, e1]
  unfold lA
  rw [List.append_assoc, List.drop_append_of_le_length (by rw [be_len]; exact Nat.le_refl _), List.drop_of_length_le (by rw [be_len]; exact Nat.le_refl _), List.nil_append]
 rw [e2, e1, num_back 4 (.inl rfl) _ h2]
 have e3 : numU m (lA m L[i] ++ ((L.drop (i + 1)).flatMap (lA m) ++ (tr S ++ tr U))) = L[i].f0 := by
  unfold lA
  rw [List.append_assoc]
  exact num_back m hm _ h1 _
 rw [e3]
theorem kind_at (i : Nat) (hi : i < K.length) : ∃ (p : Nat) (rest : List Int), (encL m K J L S U).drop (o1 m J.length + 6 * i) = be 4 (u64w K[i].f0) ++ (b1 K[i].f1 :: ((p : Int) % 256) :: rest) ∧ (∃ pre post : List UInt8, (nmSt (names K)).1 = pre ++ K[i].f2.data.toList ++ 0 :: post ∧ pre.length = p) := by
 have hl : (names K).length = K.length := by simp [names]
 have hz : i < (K.zip (nmSt (names K)).2.2).length := by rw [zip_len]; exact hi
 have inv := nm_inv (names K)
 obtain ⟨p, hp, hat⟩ := inv.at_ i (by omega)
 have hn : (names K)[i]'(by omega) = K[i].f2 := by simp [names]
 rw [hn] at hp
 have hat2 : (nmSt (names K)).2.2[i]'(by rw [inv.len]; omega) = (p : Int) % 256 := by
  rw [List.getElem?_eq_getElem (by rw [inv.len]; omega)] at hat
  exact Option.some.inj hat
 obtain ⟨pre, post, h1, h2⟩ := inv.place _ p hp
 refine ⟨p, ((K.zip (nmSt (names K)).2.2).drop (i + 1)).flatMap kA ++ (pN K ++ (pL m L ++ (tr S ++ tr U))), ?_, pre, post, h1, h2⟩
 rw [at_o1]
 have e := flat_at kA 6 _ (fun x _ => kA_len x) i hz (pN K ++ (pL m L ++ (tr S ++ tr U)))
 have ek : kA (K.zip (nmSt (names K)).2.2)[i] = be 4 (u64w K[i].f0) ++ [b1 K[i].f1] ++ [(p : Int) % 256] := by
  rw [List.getElem_zip, hat2]
  rfl
 rw [ek] at e
 unfold pK
 rw [e]
 simp
theorem kind_read (hn : (nmSt (names K)).1.length ≤ 256) (i : Nat) (hi : i < K.length) (h4 : fit 4 K[i].f0) (hz : Lib.indexByte K[i].f2.data.toList 0 < 0) :
  kind1 (o1 m J.length) (pN K) (encL m K J L S U) i = K[i] ∧ ktrue (o1 m J.length) (encL m K J L S U) i = true ∧ kname (o1 m J.length) (pN K) (encL m K J L S U) i = true := by
 obtain ⟨p, rest, e, pre, post, h1, h2⟩ := kind_at m K J L S U i hi
 have hp : p < 256 := by
  have := congrArg List.length h1
  simp only [List.length_append, List.length_cons] at this
  omega
 have e4 : (encL m K J L S U).drop (o1 m J.length + 6 * i + 4) = b1 K[i].f1 :: ((p : Int) % 256) :: rest := by
  rw [← List.drop_drop, e, List.drop_append_of_le_length (by rw [be_len]; exact Nat.le_refl _), List.drop_of_length_le (by rw [be_len]; exact Nat.le_refl _), List.nil_append]
 have e5 : (encL m K J L S U).drop (o1 m J.length + 6 * i + 5) = ((p : Int) % 256) :: rest := by
  rw [show o1 m J.length + 6 * i + 5 = (o1 m J.length + 6 * i + 4) + 1 from rfl, ← List.drop_drop, e4]
  rfl
 have hk : kat (o1 m J.length) (encL m K J L S U) i = (p : Int) := by
  unfold kat
  rw [e5, rd_zero, wrap_small _ (by omega) (by omega)]
 have hnm : nameI (pN K) (p : Int) = (K[i].f2, true) := name_at _ pre post _ p h1 h2 hz
 refine ⟨?_, ?_, ?_⟩
 ·
  unfold kind1
  rw [e, e4, hk, hnm, rd_zero, num_back 4 (.inl rfl) _ h4]
  have eb : (b1 K[i].f1 == 1) = K[i].f1 := by cases K[i].f1 <;> rfl
  rw [eb]
 ·
  unfold ktrue
  rw [e4, rd_zero]
  cases K[i].f1 <;> rfl
 ·
  unfold kname
  rw [hk, hnm]
theorem dec_enc (hm : m = 4 ∨ m = 8) (v : Int) (hv : 1 ≤ v ∧ v ≤ 4) (hr : rightB m v K J L S U = true) (hJ : ∀ j ∈ J, fit 8 j.f0) (hL : ∀ x ∈ L, fit 8 x.f0 ∧ fit 8 x.f1) (more : List Int) :
  block_Decode.f (encL m K J L S U ++ more) v U.length S.length L.length J.length K.length (nmSt (names K)).1.length m = some (K, J, L, S, U, 0) := by
 have hlen := encL_len m K J L S U
 obtain ⟨_, b2, b3, b4, b5, b6, b7, b8⟩ := rightB_bd hr
 have hr0 := hr
 unfold rightB kindedB at hr
 simp only [Bool.and_eq_true, Bool.or_eq_true, decide_eq_true_eq] at hr
 obtain ⟨⟨⟨_, ⟨_, hk⟩, hn⟩, hj⟩, hl⟩ := hr
 have hne : 1 ≤ (nmSt (names K)).1.length := by
  have := nmSt_ne (names K) (by intro e; have := congrArg List.length e; simp [names] at this; rw [this] at b2; simp at b2)
  cases h : (nmSt (names K)).1 with
  | nil => exact absurd h this
  | cons _ _ => simp
 have hJ2 : ∀ j ∈ J, fit m j.f0 ∧ 0 ≤ j.f1 ∧ j.f1 < 256 := by
  intro j hj0
  obtain ⟨i, hi, rfl⟩ := List.getElem_of_mem hj0
  unfold jumpedB at hj
  rw [Bool.and_eq_true] at hj
  have h := all_at hj.1 hi
  unfold jokB at h
  rw [rd54 J i hi] at h
  simp only [Bool.and_eq_true, Bool.not_eq_true', decide_eq_false_iff_not] at h
  obtain ⟨⟨⟨_, h2⟩, h3⟩, h4⟩ := h
  exact ⟨fits_fit hm (hJ _ hj0) h4, by omega, by omega⟩
 have hL2 : ∀ x ∈ L, fit m x.f0 ∧ fit 4 x.f1 := by
  intro x hx0
  obtain ⟨i, hi, rfl⟩ := List.getElem_of_mem hx0
  have hc := corr_bd _ _ L (fun y hy => (hL y hy).2) hl i hi
  have hl2 := hl
  unfold leapedB at hl2
  rw [Bool.and_eq_true] at hl2
  have h := all_at hl2.1 hi
  unfold lokB at h
  rw [rd67 L i hi] at h
  simp only [Bool.and_eq_true] at h
  exact ⟨fits_fit hm (hL _ hx0).1 h.2, fit4.2 (by omega)⟩
 have hK : ∀ i (hi : i < K.length), fit 4 K[i].f0 ∧ Lib.indexByte K[i].f2.data.toList 0 < 0 := by
  intro i hi
  have h := all_at hk hi
  unfold kokB hasZero at h
  rw [rd56 K i hi] at h
  simp only [Bool.and_eq_true, Bool.not_eq_true', decide_eq_false_iff_not] at h
  obtain ⟨⟨⟨h1, h2⟩, h3⟩, _⟩ := h
  exact ⟨fit4.2 (by omega), by omega⟩
 have hdK : dK m J.length K.length (nmSt (names K)).1.length (encL m K J L S U) = K := by
  unfold dK
  rw [dNs_eq]
  exact ext_range K _ (fun i hi => (kind_read m K J L S U b8 i hi (hK i hi).1 (hK i hi).2).1)
 have hdJ := dJ_eq m K J L S U hm hJ2
 have hdL := dL_eq m K J L S U hm hL2
 have hOK : dOK m U.length S.length L.length J.length K.length (nmSt (names K)).1.length (encL m K J L S U) = true := by
  unfold dOK
  rw [dNs_eq, dS_eq, dU_eq, allB_tr, allB_tr, Bool.and_true, Bool.and_true, Bool.and_eq_true, List.all_eq_true, List.all_eq_true]
  refine ⟨fun i hi => ?_, fun i hi => ?_⟩
  ·
   have := List.mem_range.1 hi
   exact (kind_read m K J L S U b8 i this (hK i this).1 (hK i this).2).2.1
  ·
   have := List.mem_range.1 hi
   exact (kind_read m K J L S U b8 i this (hK i this).1 (hK i this).2).2.2
 have hRt : dRight m v U.length S.length L.length J.length K.length (nmSt (names K)).1.length (encL m K J L S U) = true := by
  unfold dRight
  rw [hdK, hdJ, hdL, dS_eq, dU_eq, isOne_tr, isOne_tr]
  exact hr0
 unfold block_Decode.f
 rw [if_pos ⟨by rcases hm with rfl | rfl <;> simp, ⟨hv.1, hv.2⟩, ⟨by omega, by omega⟩, ⟨by omega, by omega⟩, ⟨by omega, by omega⟩, ⟨by omega, by omega⟩, by omega, by omega⟩]
 simp only [Int.toNat_natCast]
 have ht : (encL m K J L S U ++ more).take (bodyN m U.length S.length L.length J.length K.length (nmSt (names K)).1.length) = encL m K J L S U := by
  rw [List.take_append_of_le_length (by omega), List.take_of_length_le (by omega)]
 rw [if_neg (by rw [List.length_append]; omega), ht, if_pos ⟨hOK, hRt⟩, hdK, hdJ, hdL, dS_eq, dU_eq, isOne_tr, isOne_tr]
end
end Go.Proofs.Ythobnoknbdljgaa
end
section
namespace Go.Proofs.Ythobnoknbdljgaa.Hand
open Go.ChangeShapes Go.WideShapes Go.Deep Go.Joins Go.RowKit Go.Proofs.YthobnoknbdljgaaW.PrintWords PB0
instance : Inhabited S56 := ⟨⟨0, false, ⟨#[]⟩⟩⟩
instance : Inhabited S54 := ⟨⟨0, 0⟩⟩
instance : Inhabited S67 := ⟨⟨0, 0⟩⟩
def wfi (n : Int) : Prop := -9223372036854775808 ≤ n ∧ n ≤ 9223372036854775807
def good56 (x : S56) : Prop := wfi x.f0
def good54 (x : S54) : Prop := wfi x.f0 ∧ wfi x.f1
def good67 (x : S67) : Prop := wfi x.f0 ∧ wfi x.f1
end Go.Proofs.Ythobnoknbdljgaa.Hand
end
section
namespace Go.Proofs.Ythobnoknbdljgaa
open Go.RowKit Hand PB0 Go.Proofs.YthobnoknbdljgaaW.PrintWords Stub Stub2
theorem nmSum_cap (l : List ByteArray) (b : Nat) (h : ∀ s ∈ l, s.size ≤ b) : nmSum l ≤ (b + 1) * l.length := by
 induction l with
 | nil => simp [nmSum]
 | cons a l ih =>
  have h1 := h a (by simp)
  have h2 := ih (fun s hs => h s (by simp [hs]))
  have e : nmSum (a :: l) = (a.size + 1) + nmSum l := by simp [nmSum]
  rw [e, List.length_cons, Nat.mul_add]
  omega
theorem cutK_size (x : S56) : (cutK x).f2.size ≤ 60 := by
 unfold cutK
 show (x.f2.extract 0 (min x.f2.size 60)).size ≤ 60
 rw [ByteArray.size_extract]
 omega
structure Small (K : List S56) (J : List S54) (L : List S67) (S U : List Bool) : Prop where
 k : K.length ≤ 40
 j : J.length ≤ 100
 l : L.length ≤ 50
 s : S.length ≤ 40
 u : U.length ≤ 40
 n : ∀ x ∈ K, x.f2.size ≤ 60
 gk : ∀ x ∈ K, good56 x
 gj : ∀ x ∈ J, good54 x
 gl : ∀ x ∈ L, good67 x
theorem small_few {l0 : List S56} {l1 : List S54} {l2 : List S67} {l3 l4 : List Bool} (g0 : ∀ x ∈ l0, good56 x) (g1 : ∀ x ∈ l1, good54 x) (g2 : ∀ x ∈ l2, good67 x) :
  ∃ K J L S U, longcaselaw06_few.f l0 l1 l2 l3 l4 = some (K, J, L, S, U) ∧ Small K J L S U := by
 refine ⟨_, _, _, _, _, rfl, ?_⟩
 constructor
 ·
  rw [List.length_map, List.length_take]; omega
 ·
  rw [List.length_take]; omega
 ·
  rw [List.length_take]; omega
 ·
  rw [List.length_take]; omega
 ·
  rw [List.length_take]; omega
 ·
  intro x hx
  obtain ⟨y, _, rfl⟩ := List.mem_map.1 hx
  exact cutK_size y
 ·
  intro x hx
  obtain ⟨y, hy, rfl⟩ := List.mem_map.1 hx
  exact g0 y (List.mem_of_mem_take hy)
 ·
  exact fun x hx => g1 x (List.mem_of_mem_take hx)
 ·
  exact fun x hx => g2 x (List.mem_of_mem_take hx)
section
variable {K : List S56} {J : List S54} {L : List S67} {S U : List Bool}
theorem Small.ok (h : Small K J L S U) : encOK K J L S U := by
 have hn := nmSum_cap (names K) 60 (by
  intro s hs
  unfold names at hs
  obtain ⟨x, hx, rfl⟩ := List.mem_map.1 hs
  exact h.n x hx)
 have hl : (names K).length = K.length := by simp [names]
 rw [hl] at hn
 have := h.k
 have := h.j
 have := h.l
 have := h.s
 have := h.u
 unfold encOK
 omega
theorem Small.right (h : Small K J L S U) (a b : Int) : block_Right.f K J L S U a b = some (rightB a b K J L S U) := by
 unfold block_Right.f
 rw [if_pos h.ok]
theorem Small.enc (h : Small K J L S U) {m : Nat} {v : Int} (hv : 1 ≤ v ∧ v ≤ 4) (hr : rightB m v K J L S U = true) :
  Stub2.block_Encode.f K J L S U (m : Int) v = some (encL m K J L S U, v, (U.length : Int), (S.length : Int), (L.length : Int), (J.length : Int), (K.length : Int), ((nmSt (names K)).1.length : Int), 0) := by
 unfold Stub2.block_Encode.f encR
 rw [if_pos h.ok, if_pos ⟨hv.1, hv.2, hr⟩, Int.toNat_natCast]
theorem Small.dec (h : Small K J L S U) {m : Nat} (hm : m = 4 ∨ m = 8) {v : Int} (hv : 1 ≤ v ∧ v ≤ 4) (hr : rightB m v K J L S U = true) (more : List Int) :
  block_Decode.f (encL m K J L S U ++ more) v U.length S.length L.length J.length K.length (nmSt (names K)).1.length m = some (K, J, L, S, U, 0) :=
 dec_enc m K J L S U hm v hv hr (fun j hj => fit8.2 (h.gj j hj).1) (fun x hx => ⟨fit8.2 (h.gl x hx).1, fit8.2 (h.gl x hx).2⟩) more
theorem Small.same (h : Small K J L S U) : longcaseref06_Same.f K J L S U K J L S U = some true := by
 have h := h.ok
 unfold longcaseref06_Same.f sameB
 rw [if_pos ⟨h.1, h.2.2.1, h.2.2.2.1, h.2.2.2.2.1, h.2.2.2.2.2⟩]
 simp
end
theorem bk_and3 (n : Int) : Go.bits .and .i64 n 3 = n % 4 := by
 have h127 : (BitVec.ofInt 64 3).toNat = 2 ^ 2 - 1 := by decide
 have key : (BitVec.ofInt 64 n &&& BitVec.ofInt 64 3).toNat = (n % ((2 ^ 64 : Nat) : Int)).toNat % 2 ^ 2 := by
  rw [BitVec.toNat_and, BitVec.toNat_ofInt, h127, Nat.and_two_pow_sub_one_eq_mod]
 show IntKind.i64.wrap ((BitVec.ofInt 64 n &&& BitVec.ofInt 64 3).toNat : Nat) = n % 4
 rw [key, IntKind.wrap_i64]
 omega
theorem ver_ok (n : Int) : ∃ v, wrap64 (1 + Go.bits .and .i64 n 3) = v ∧ 1 ≤ v ∧ v ≤ 4 := by
 refine ⟨_, rfl, ?_⟩
 rw [bk_and3, Hand.w64 (by omega) (by omega)]
 omega
theorem right48 {v : Int} {K : List S56} {J : List S54} {L : List S67} {S U : List Bool} (h : rightB 4 v K J L S U = true) : rightB 8 v K J L S U = true := by
 unfold rightB at h ⊢
 simp only [Bool.and_eq_true, Bool.or_eq_true, decide_eq_true_eq] at h ⊢
 obtain ⟨⟨⟨_, h2⟩, h3⟩, h4⟩ := h
 refine ⟨⟨⟨.inr trivial, h2⟩, ?_⟩, ?_⟩
 ·
  unfold jumpedB at h3 ⊢
  simp only [Bool.and_eq_true] at h3 ⊢
  refine ⟨List.all_eq_true.2 fun k hk => ?_, h3.2⟩
  have := List.all_eq_true.1 h3.1 k hk
  unfold jokB at this ⊢
  simp only [Bool.and_eq_true] at this ⊢
  exact ⟨this.1, by unfold fitsB; rw [if_neg (by decide)]⟩
 ·
  unfold leapedB at h4 ⊢
  simp only [Bool.and_eq_true] at h4 ⊢
  refine ⟨List.all_eq_true.2 fun k hk => ?_, h4.2⟩
  have := List.all_eq_true.1 h4.1 k hk
  unfold lokB at this ⊢
  simp only [Bool.and_eq_true] at this ⊢
  exact ⟨this.1, by unfold fitsB; rw [if_neg (by decide)]⟩
end Go.Proofs.Ythobnoknbdljgaa
end
section
namespace Go.Proofs.Ythobnoknbdljgaa
open Go.RowKit Hand PB0 Go.Proofs.YthobnoknbdljgaaW.PrintWords Stub Stub2 PL2
theorem wide_f {l0 : List S56} {l1 : List S54} {l2 : List S67} {l3 l4 : List Bool} (g0 : ∀ x ∈ l0, good56 x) (g1 : ∀ x ∈ l1, good54 x) (g2 : ∀ x ∈ l2, good67 x) (a : Int) : longcaselaw06_BlockWide.f l0 l1 l2 l3 l4 a = some true := by
 obtain ⟨K, J, L, S, U, hf, hs⟩ := small_few (l3 := l3) (l4 := l4) g0 g1 g2
 obtain ⟨v, hv, hv4⟩ := ver_ok a
 unfold longcaselaw06_BlockWide.f longcaselaw06_shown.f
 rw [Option.bind_some, hf, Option.bind_some, hv]
 dsimp only
 rw [hs.right, Option.bind_some]
 by_cases hr : rightB 4 v K J L S U = true
 ·
  have hr8 := right48 hr
  have e4 := hs.enc (m := 4) hv4 hr
  have e8 := hs.enc (m := 8) hv4 hr8
  have d4 := hs.dec (.inl rfl) hv4 hr []
  have d8 := hs.dec (.inr rfl) hv4 hr8 []
  rw [List.append_nil] at d4 d8
  simp only [Int.cast_ofNat_Int] at e4 e8 d4 d8
  have ll4 := encL_len 4 K J L S U
  have ll8 := encL_len 8 K J L S U
  unfold bodyN at ll4 ll8
  have hb := rightB_bd hr
  rw [if_pos hr, e4, Option.bind_some, e8, Option.bind_some]
  dsimp only
  rw [d4, Option.bind_some, d8, Option.bind_some]
  dsimp only
  unfold longcaselaw06_ref.f
  rw [if_pos rfl, if_pos rfl, if_pos rfl, if_pos (by simp), if_pos ?len, if_pos rfl, if_pos rfl, Option.bind_some, Option.bind_some]
  ·
   dsimp only
   rw [hs.same]
   rfl
  case len =>
   have := hs.j
   have := hs.l
   have := hs.k
   have := hs.s
   have := hs.u
   rw [Hand.w64 (n := 4 * (J.length : Int)) (by omega) (by omega), Hand.w64 (n := 4 * (L.length : Int)) (by omega) (by omega), Hand.w64 (n := ((encL 4 K J L S U).length : Int) + _) (by omega) (by omega), Hand.w64 (by omega) (by omega)]
   omega
 ·
  rw [if_neg hr]
end Go.Proofs.Ythobnoknbdljgaa
namespace Go.Proofs.Ythobnoknbdljgaa.Hand
open Go.RowKit PB0 Go.Proofs.YthobnoknbdljgaaW.PrintWords
theorem wide_row (A0_0 : Option Addr) (c0_0 : Nat) (l0_0 : List S56) (A0_1 : Option Addr) (c0_1 : Nat) (l0_1 : List S54) (A0_2 : Option Addr) (c0_2 : Nat) (l0_2 : List S67) (A0_3 : Option Addr) (c0_3 : Nat) (l0_3 : List Bool) (A0_4 : Option Addr) (c0_4 : Nat) (l0_4 : List Bool) (a1 : Int) (w : World) (hr0_0 : Kd.C k56 w A0_0 l0_0.length l0_0) (hc0_0 : l0_0.length ≤ c0_0) (hr0_1 : Kd.C k54 w A0_1 l0_1.length l0_1) (hc0_1 : l0_1.length ≤ c0_1) (hr0_2 : Kd.C k67 w A0_2 l0_2.length l0_2) (hc0_2 : l0_2.length ≤ c0_2) (hr0_3 : Kd.C Kd.bool w A0_3 l0_3.length l0_3) (hc0_3 : l0_3.length ≤ c0_3) (hr0_4 : Kd.C Kd.bool w A0_4 l0_4.length l0_4) (hc0_4 : l0_4.length ≤ c0_4) (g0 : ∀ x ∈ l0_0, good56 x) (g1 : ∀ x ∈ l0_1, good54 x) (g2 : ∀ x ∈ l0_2, good67 x) (_ : (Lit.int .i64 a1).wf = true) :
  Calls Try.prog 6 #[.agg #[.slice A0_0 l0_0.length c0_0, .slice A0_1 l0_1.length c0_1, .slice A0_2 l0_2.length c0_2, .slice A0_3 l0_3.length c0_3, .slice A0_4 l0_4.length c0_4], .int .i64 a1] w fun e w' => e = .returned (.bool true) ∧ Below w.heap.size w w' :=
 PL2.longcaselaw06_BlockWide.calls A0_0 c0_0 l0_0 A0_1 c0_1 l0_1 A0_2 c0_2 l0_2 A0_3 c0_3 l0_3 A0_4 c0_4 l0_4 a1 true w hr0_0 hc0_0 hr0_1 hc0_1 hr0_2 hc0_2 hr0_3 hc0_3 hr0_4 hc0_4 (wide_f g0 g1 g2 a1) rfl
end Go.Proofs.Ythobnoknbdljgaa.Hand
end
