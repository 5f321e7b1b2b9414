/- What the claim needs of its texts, one behind the other (laid by a program of the session's). -/
import Derived.Test.YthobnoknbdljgaaZReads5
set_option linter.unusedVariables false
set_option linter.unusedSectionVars false
set_option linter.unusedSimpArgs false
section
namespace Go.Proofs.Ythobnoknbdljgaa.PD
open Go.Proofs.Ythobnoknbdljgaa.PB0 Sq
open Go.RowKit Go.Proofs.Ythobnoknbdljgaa.Stub2 Go.Proofs.Ythobnoknbdljgaa.Hand Go.Proofs.YthobnoknbdljgaaW.PrintWords Go.Proofs.YthobnoknbdljgaaW.PrintLast Go.Proofs.YthobnoknbdljgaaW.PrintMore
attribute [local go_sem] max2_int min2_int max_two min_two
set_option linter.unusedVariables false
set_option linter.unusedSimpArgs false
mutual
def longcaseref06_Decode.j0 : Nat → List Int → Int → Bool → Int → Int → Int → Int → Int → Int → Int → Option ((List (S56)) × (List (S54)) × (List (S67)) × List Bool × List Bool × Int)
 | 0, _, _, _, _, _, _, _, _, _, _ => none
 | k + 1, x0, x2, x45, x109000, x109001, x109002, x109003, x109004, x109005, x109006 => if x45 = true then (some (([] : List (S56)), ([] : List (S54)), ([] : List (S67)), ([] : List Bool), ([] : List Bool), 1)) else ((longcaseref05_Body.f x109000 x109001 x109002 x109003 x109004 x109005 x109006 x2).bind fun t111 => (if (x0.length : Int) < t111 then (some (([] : List (S56)), ([] : List (S54)), ([] : List (S67)), ([] : List Bool), ([] : List Bool), 5)) else (longcaseref06_Decode.l0 k x0 x2 0 (wrap64 (x109004 * x2)) (wrap64 ((wrap64 (x109004 * x2)) + x109004)) (wrap64 ((wrap64 ((wrap64 (x109004 * x2)) + x109004)) + (wrap64 (6 * x109005)))) (wrap64 ((wrap64 ((wrap64 ((wrap64 (x109004 * x2)) + x109004)) + (wrap64 (6 * x109005)))) + x109006)) (wrap64 ((wrap64 ((wrap64 ((wrap64 ((wrap64 (x109004 * x2)) + x109004)) + (wrap64 (6 * x109005)))) + x109006)) + (wrap64 (x109003 * (wrap64 (x2 + 4)))))) (wrap64 ((wrap64 ((wrap64 ((wrap64 ((wrap64 ((wrap64 (x109004 * x2)) + x109004)) + (wrap64 (6 * x109005)))) + x109006)) + (wrap64 (x109003 * (wrap64 (x2 + 4)))))) + x109002)) 0 x109000 x109001 x109002 x109003 x109004 x109005 x109006 ([] : List (S54)))))
def longcaseref06_Decode.l0 : Nat → List Int → Int → Int → Int → Int → Int → Int → Int → Int → Int → Int → Int → Int → Int → Int → Int → Int → List (S54) → Option ((List (S56)) × (List (S54)) × (List (S67)) × List Bool × List Bool × Int)
 | 0, _, _, _, _, _, _, _, _, _, _, _, _, _, _, _, _, _, _ => none
 | k + 1, x0, x2, x10, x11, x12, x13, x14, x15, x16, x17, x109000, x109001, x109002, x109003, x109004, x109005, x109006, x113001 => if x17 < x109004 then ((longcaseref04_Int.f k x0 (wrap64 (x10 + (wrap64 (x17 * x2)))) x2).bind fun bt113 => (if 0 ≤ (wrap64 (x11 + x17)) then (if (wrap64 (x11 + x17)) < (x0.length : Int) then (if x113001.length < 8796093022208 then (longcaseref06_Decode.l0 k x0 x2 x10 x11 x12 x13 x14 x15 x16 (wrap64 (x17 + 1)) x109000 x109001 x109002 x109003 x109004 x109005 x109006 (x113001 ++ [(⟨bt113.1, wrap64 (rd x0 (wrap64 (x11 + x17)))⟩ : S54)])) else (none)) else (none)) else (none))) else (longcaseref06_Decode.l1 k x0 x2 x12 x13 x14 x15 x16 0 x109000 x109001 x109002 x109003 x109004 x109005 x109006 ([] : List (S56)) x113001)
def longcaseref06_Decode.l1 : Nat → List Int → Int → Int → Int → Int → Int → Int → Int → Int → Int → Int → Int → Int → Int → Int → List (S56) → List (S54) → Option ((List (S56)) × (List (S54)) × (List (S67)) × List Bool × List Bool × Int)
 | 0, _, _, _, _, _, _, _, _, _, _, _, _, _, _, _, _, _ => none
 | k + 1, x0, x2, x12, x13, x14, x15, x16, x20, x109000, x109001, x109002, x109003, x109004, x109005, x109006, x113000, x113001 => if x20 < x109005 then ((longcaseref04_Int.f k x0 (wrap64 (x12 + (wrap64 (6 * x20)))) 4).bind fun bt119 => (if 0 ≤ x14 then (if x14 ≤ (x0.length : Int) then (if 0 ≤ (wrap64 ((wrap64 (x12 + (wrap64 (6 * x20)))) + 5)) then (if (wrap64 ((wrap64 (x12 + (wrap64 (6 * x20)))) + 5)) < (x0.length : Int) then ((longcaseref04_Name.f k (x0.take (x14 : Int).toNat) (wrap64 (x13 + (wrap64 (rd x0 (wrap64 ((wrap64 (x12 + (wrap64 (6 * x20)))) + 5))))))).bind fun bt123 => (if 0 ≤ (wrap64 ((wrap64 (x12 + (wrap64 (6 * x20)))) + 4)) then (if (wrap64 ((wrap64 (x12 + (wrap64 (6 * x20)))) + 4)) < (x0.length : Int) then (if (rd x0 (wrap64 ((wrap64 (x12 + (wrap64 (6 * x20)))) + 4))) > 1 then (some (([] : List (S56)), ([] : List (S54)), ([] : List (S67)), ([] : List Bool), ([] : List Bool), 4)) else (if (wrap64 (rd x0 (wrap64 ((wrap64 (x12 + (wrap64 (6 * x20)))) + 5)))) ≥ x109006 then (some (([] : List (S56)), ([] : List (S54)), ([] : List (S67)), ([] : List Bool), ([] : List Bool), 4)) else (if bt123.2 = true then (if x113000.length < 4398046511104 then (longcaseref06_Decode.l1 k x0 x2 x12 x13 x14 x15 x16 (wrap64 (x20 + 1)) x109000 x109001 x109002 x109003 x109004 x109005 x109006 (x113000 ++ [(⟨bt119.1, ((rd x0 (wrap64 ((wrap64 (x12 + (wrap64 (6 * x20)))) + 4))) == 1), bt123.1⟩ : S56)]) x113001) else (none)) else (some (([] : List (S56)), ([] : List (S54)), ([] : List (S67)), ([] : List Bool), ([] : List Bool), 4))))) else (none)) else (none))) else (none)) else (none)) else (none)) else (none))) else (longcaseref06_Decode.l2 k x0 x2 x14 x15 x16 0 x109000 x109001 x109002 x109003 x109004 x109005 x109006 x113000 x113001 ([] : List (S67)))
def longcaseref06_Decode.l2 : Nat → List Int → Int → Int → Int → Int → Int → Int → Int → Int → Int → Int → Int → Int → List (S56) → List (S54) → List (S67) → Option ((List (S56)) × (List (S54)) × (List (S67)) × List Bool × List Bool × Int)
 | 0, _, _, _, _, _, _, _, _, _, _, _, _, _, _, _, _ => none
 | k + 1, x0, x2, x14, x15, x16, x26, x109000, x109001, x109002, x109003, x109004, x109005, x109006, x113000, x113001, x113002 => if x26 < x109003 then ((longcaseref04_Int.f k x0 (wrap64 (x14 + (wrap64 (x26 * (wrap64 (x2 + 4)))))) x2).bind fun bt131 => ((longcaseref04_Int.f k x0 (wrap64 ((wrap64 (x14 + (wrap64 (x26 * (wrap64 (x2 + 4)))))) + x2)) 4).bind fun bt133 => (if x113002.length < 8796093022208 then (longcaseref06_Decode.l2 k x0 x2 x14 x15 x16 (wrap64 (x26 + 1)) x109000 x109001 x109002 x109003 x109004 x109005 x109006 x113000 x113001 (x113002 ++ [(⟨bt131.1, bt133.1⟩ : S67)])) else (none)))) else (longcaseref06_Decode.l3 k x0 x2 x15 x16 0 x109000 x109001 x109002 x109003 x109004 x109005 x109006 x113000 x113001 x113002 ([] : List Bool) ([] : List Bool))
def longcaseref06_Decode.l3 : Nat → List Int → Int → Int → Int → Int → Int → Int → Int → Int → Int → Int → Int → List (S56) → List (S54) → List (S67) → List Bool → List Bool → Option ((List (S56)) × (List (S54)) × (List (S67)) × List Bool × List Bool × Int)
 | 0, _, _, _, _, _, _, _, _, _, _, _, _, _, _, _, _, _ => none
 | k + 1, x0, x2, x15, x16, x32, x109000, x109001, x109002, x109003, x109004, x109005, x109006, x113000, x113001, x113002, x113003, x113004 => if x32 < (wrap64 (x109002 + x109001)) then (if 0 ≤ (wrap64 (x15 + x32)) then (if (wrap64 (x15 + x32)) < (x0.length : Int) then (if (rd x0 (wrap64 (x15 + x32))) > 1 then (some (([] : List (S56)), ([] : List (S54)), ([] : List (S67)), ([] : List Bool), ([] : List Bool), 4)) else (if x32 < x109002 then (if x113003.length < 140737488355328 then (longcaseref06_Decode.l3 k x0 x2 x15 x16 (wrap64 (x32 + 1)) x109000 x109001 x109002 x109003 x109004 x109005 x109006 x113000 x113001 x113002 (x113003 ++ [((rd x0 (wrap64 (x15 + x32))) == 1)]) x113004) else (none)) else (if 0 ≤ (wrap64 ((wrap64 (x16 + x32)) - x109002)) then (if (wrap64 ((wrap64 (x16 + x32)) - x109002)) < (x0.length : Int) then (if x113004.length < 140737488355328 then (longcaseref06_Decode.l3 k x0 x2 x15 x16 (wrap64 (x32 + 1)) x109000 x109001 x109002 x109003 x109004 x109005 x109006 x113000 x113001 x113002 x113003 (x113004 ++ [((rd x0 (wrap64 ((wrap64 (x16 + x32)) - x109002))) == 1)])) else (none)) else (none)) else (none)))) else (none)) else (none)) else ((longcaseref06_Right.f x113000 x113001 x113002 x113003 x113004 x2 x109000).bind fun t138 => (if t138 = true then (some (x113000, x113001, x113002, x113003, x113004, 0)) else (some (([] : List (S56)), ([] : List (S54)), ([] : List (S67)), ([] : List Bool), ([] : List Bool), 4))))
end
def longcaseref06_Decode.f (k : Nat) (l0 : List Int) (a1_0 : Int) (a1_1 : Int) (a1_2 : Int) (a1_3 : Int) (a1_4 : Int) (a1_5 : Int) (a1_6 : Int) (a2 : Int) : Option ((List (S56)) × (List (S54)) × (List (S67)) × List Bool × List Bool × Int) := (longcaseref05_Right.f k a1_0 a1_1 a1_2 a1_3 a1_4 a1_5 a1_6).bind fun t110 => (if t110 = true then (if a2 = 4 then (longcaseref06_Decode.j0 k l0 a2 false a1_0 a1_1 a1_2 a1_3 a1_4 a1_5 a1_6) else (longcaseref06_Decode.j0 k l0 a2 (a2 != 8) a1_0 a1_1 a1_2 a1_3 a1_4 a1_5 a1_6)) else (longcaseref06_Decode.j0 k l0 a2 true a1_0 a1_1 a1_2 a1_3 a1_4 a1_5 a1_6))
def longcaseref06_Decode.T18 : Bool × List (List Nat × List Nat) := (true, [([], []), ([0], [0]), ([], []), ([], []), ([], []), ([], []), ([4, 5], [4, 5]), ([3, 6], [3, 6]), ([7], [7]), ([8], [8]), ([2, 9], [2, 9]), ([10], [10]), ([1, 11], [1, 11]), ([0, 1, 2, 3, 4, 5, 6, 7, 8, 9, 10, 11, 12], []), ([13, 12, 12, 0, 1, 2, 3, 4, 5, 6, 7, 8, 9, 10, 11, 12], [12, 13])])
def longcaseref06_Decode.B18 : List Nat := [0, 1, 0, 0, 0, 0, 48, 120, 248, 504, 1020, 2044, 4095, 8191, 16383]
theorem longcaseref06_Decode.tab18 : rtab .any (opsOf Try.f22 18) = longcaseref06_Decode.T18 := by kernel_rfl
theorem longcaseref06_Decode.bits18 : waitsOk longcaseref06_Decode.T18.2 longcaseref06_Decode.B18 = true := by kernel_rfl
def longcaseref06_Decode.T24 : Bool × List (List Nat × List Nat) := (true, [([], []), ([], []), ([0, 1], [0, 1]), ([], []), ([], []), ([], []), ([5], [5]), ([4, 6], [4, 6]), ([7], [7]), ([8], [8]), ([3, 9], [3, 9]), ([2, 10], [2, 10]), ([11], [11]), ([12], [12]), ([12], [12]), ([13, 11, 0, 1, 2, 3, 4, 5, 6, 7, 8, 9, 10, 11, 12, 13], [13]), ([14, 15, 0, 1, 2, 3, 4, 5, 6, 7, 8, 9, 10, 11, 12, 13, 14, 15], [14])])
def longcaseref06_Decode.B24 : List Nat := [0, 0, 3, 0, 0, 0, 32, 112, 240, 496, 1016, 2047, 4095, 8191, 8191, 16383, 65535]
theorem longcaseref06_Decode.tab24 : rtab .any (opsOf Try.f22 24) = longcaseref06_Decode.T24 := by kernel_rfl
theorem longcaseref06_Decode.bits24 : waitsOk longcaseref06_Decode.T24.2 longcaseref06_Decode.B24 = true := by kernel_rfl
def longcaseref06_Decode.T25 : Bool × List (List Nat × List Nat) := (true, [([], []), ([], []), ([1], [1]), ([0, 2], [0, 2]), ([3], [3]), ([4], [4]), ([5], [5]), ([6], [6]), ([6], [6]), ([8, 6], [6, 8]), ([7, 9, 6], [6, 7, 9]), ([10, 6], [6, 10]), ([11, 6], [6, 11]), ([6], [6]), ([13, 6], [6, 13]), ([12, 14, 6], [6, 12, 14]), ([6, 15], [6, 15]), ([16, 6], [16]), ([17], [17]), ([18, 17], [17, 18]), ([17, 19], [17, 19])])
def longcaseref06_Decode.B25 : List Nat := [0, 0, 2, 7, 15, 31, 63, 127, 127, 383, 1023, 2047, 4095, 127, 8319, 32767, 65535, 131071, 262143, 524287, 1048575]
theorem longcaseref06_Decode.tab25 : rtab .any (opsOf Try.f22 25) = longcaseref06_Decode.T25 := by kernel_rfl
theorem longcaseref06_Decode.bits25 : waitsOk longcaseref06_Decode.T25.2 longcaseref06_Decode.B25 = true := by kernel_rfl
def longcaseref06_Decode.T27 : Bool × List (List Nat × List Nat) := (true, [([], []), ([0], [0]), ([], []), ([], []), ([], []), ([4], [4]), ([3, 5], [3, 5]), ([6], [6]), ([7], [7]), ([], []), ([2, 8, 9], [2, 8, 9]), ([10], [10]), ([1, 11], [1, 11]), ([0, 1, 2, 3, 4, 5, 6, 7, 8, 9, 10, 11, 12], []), ([13, 12, 12, 0, 1, 2, 3, 4, 5, 6, 7, 8, 9, 10, 11, 12], [12, 13])])
def longcaseref06_Decode.B27 : List Nat := [0, 1, 0, 0, 0, 16, 56, 120, 248, 0, 1020, 2044, 4095, 8191, 16383]
theorem longcaseref06_Decode.tab27 : rtab .any (opsOf Try.f22 27) = longcaseref06_Decode.T27 := by kernel_rfl
theorem longcaseref06_Decode.bits27 : waitsOk longcaseref06_Decode.T27.2 longcaseref06_Decode.B27 = true := by kernel_rfl
def longcaseref06_Decode.T41 : Bool × List (List Nat × List Nat) := (true, [([], []), ([0], [0]), ([], []), ([], []), ([], []), ([3, 4], [3, 4]), ([2, 5], [2, 5]), ([6], [6]), ([7], [7]), ([8], [8]), ([1, 9], [1, 9]), ([0, 1, 2, 3, 4, 5, 6, 7, 8, 9, 10], []), ([11, 10, 10, 0, 1, 2, 3, 4, 5, 6, 7, 8, 9, 10], [10, 11])])
def longcaseref06_Decode.B41 : List Nat := [0, 1, 0, 0, 0, 24, 60, 124, 252, 508, 1023, 2047, 4095]
theorem longcaseref06_Decode.tab41 : rtab .any (opsOf Try.f22 41) = longcaseref06_Decode.T41 := by kernel_rfl
theorem longcaseref06_Decode.bits41 : waitsOk longcaseref06_Decode.T41.2 longcaseref06_Decode.B41 = true := by kernel_rfl
def longcaseref06_Decode.T42 : Bool × List (List Nat × List Nat) := (true, [([], []), ([0], [0]), ([], []), ([], []), ([], []), ([3, 4], [3, 4]), ([], []), ([6], [6]), ([5, 7], [5, 7]), ([2, 8], [2, 8]), ([9], [9]), ([10], [10]), ([11], [11]), ([1, 12], [1, 12]), ([0, 1, 2, 3, 4, 5, 6, 7, 8, 9, 10, 11, 12, 13], []), ([14, 13, 13, 0, 1, 2, 3, 4, 5, 6, 7, 8, 9, 10, 11, 12, 13], [13, 14])])
def longcaseref06_Decode.B42 : List Nat := [0, 1, 0, 0, 0, 24, 0, 64, 248, 508, 1020, 2044, 4092, 8191, 16383, 32767]
theorem longcaseref06_Decode.tab42 : rtab .any (opsOf Try.f22 42) = longcaseref06_Decode.T42 := by kernel_rfl
theorem longcaseref06_Decode.bits42 : waitsOk longcaseref06_Decode.T42.2 longcaseref06_Decode.B42 = true := by kernel_rfl
set_option maxHeartbeats 8000000 in
set_option maxRecDepth 100000 in
theorem longcaseref06_Decode.calls (k : Nat) (A0 : Option Addr) (c0 : Nat) (l0 : List Int) (a1_0 : Int) (a1_1 : Int) (a1_2 : Int) (a1_3 : Int) (a1_4 : Int) (a1_5 : Int) (a1_6 : Int) (a2 : Int) (r1 : List (S56)) (r2 : List (S54)) (r3 : List (S67)) (r4 : List Bool) (r5 : List Bool) (r6 : Int) (w : World) (hr0 : Kd.C (Kd.int .u8) w A0 l0.length l0) (hc0 : l0.length ≤ c0) (h : longcaseref06_Decode.f k l0 a1_0 a1_1 a1_2 a1_3 a1_4 a1_5 a1_6 a2 = some (r1, r2, r3, r4, r5, r6)) :
  Calls Try.prog 22 #[.slice A0 l0.length c0, .agg #[.int .i64 a1_0, .int .i64 a1_1, .int .i64 a1_2, .int .i64 a1_3, .int .i64 a1_4, .int .i64 a1_5, .int .i64 a1_6], .int .i64 a2] w fun e w' => ∃ v0_ v1_ v2_ v3_ v4_ : Value, e = .returned (.tuple #[.agg #[v0_, v1_, v2_, v3_, v4_], .int .i64 r6]) ∧ Kd.R k56 56 w' w.heap.size (fun _ => True) v0_ r1 ∧ Kd.R k54 54 w' w.heap.size (fun _ => True) v1_ r2 ∧ Kd.R k67 67 w' w.heap.size (fun _ => True) v2_ r3 ∧ Kd.R Kd.bool 4 w' w.heap.size (fun k_ => some k_ ≠ (v4_ : Value).ownBlock) v3_ r4 ∧ Kd.R Kd.bool 4 w' w.heap.size (fun k_ => some k_ ≠ (v3_ : Value).ownBlock) v4_ r5 ∧ Below w.heap.size w w' := by
 have hu41 := Try.underlying41
 have hu31 := Try.underlying31
 have hu54 := Try.underlying54
 have hu56 := Try.underlying56
 have hu67 := Try.underlying67
 have HR0 := Aside0.mk hr0
 have HC0 := Aside0.mk hc0
 clear hr0 hc0
 have HB := Aside0.mk (Below.refl w.heap.size w)
 have H : ((longcaseref05_Right.f k a1_0 a1_1 a1_2 a1_3 a1_4 a1_5 a1_6).bind fun t110 => (if t110 = true then (if a2 = 4 then (longcaseref06_Decode.j0 k l0 a2 false a1_0 a1_1 a1_2 a1_3 a1_4 a1_5 a1_6) else (longcaseref06_Decode.j0 k l0 a2 (a2 != 8) a1_0 a1_1 a1_2 a1_3 a1_4 a1_5 a1_6)) else (longcaseref06_Decode.j0 k l0 a2 true a1_0 a1_1 a1_2 a1_3 a1_4 a1_5 a1_6))) = some (r1, r2, r3, r4, r5, r6) := h
 clear h
 replace H := Option.bind_eq_some_iff.mp H
 obtain ⟨t110, A40, H⟩ := H
 replace H : (if t110 = true then (if a2 = 4 then (longcaseref06_Decode.j0 k l0 a2 false a1_0 a1_1 a1_2 a1_3 a1_4 a1_5 a1_6) else (longcaseref06_Decode.j0 k l0 a2 (a2 != 8) a1_0 a1_1 a1_2 a1_3 a1_4 a1_5 a1_6)) else (longcaseref06_Decode.j0 k l0 a2 true a1_0 a1_1 a1_2 a1_3 a1_4 a1_5 a1_6)) = some (r1, r2, r3, r4, r5, r6) := H
 have A4 := Aside0.mk A40
 clear A40
 have HC5 := Aside0.mk H
 clear H
 go_enter Try.func22, Try.ntmps22
 go_upto_region 2 with (first | ((with_reducible refine gate_dst (N := 4) rfl ?_); refine box_event ?hg (N := 4) ?hd (cs := #[.int .i64 a1_0, .int .i64 a1_1, .int .i64 a1_2, .int .i64 a1_3, .int .i64 a1_4, .int .i64 a1_5, .int .i64 a1_6]) (t := 41) ?hr ?_; (case hd => rfl); (case hg => rfl); (case hr => first | (go_simp; done) | (go_simp; rfl)); intro gb108 hg w6 hbox hb; have BK108 := Aside0.mk (hbox); have GW108 := Aside0.mk ((by rw [hg]; exact (below_size (Sq.kl HB)) : w.heap.size ≤ gb108)); have GE108 := Aside0.mk ((by rw [hg]; exact (below_size (Sq.kl HB)) : w.heap.size ≤ gb108)); replace HB := Aside0.mk (below_step (Sq.kl HB) hb); clear hb hbox hg) | ((with_reducible refine gate_dst (N := 6) rfl ?_); refine box_event ?hg (N := 6) ?hd (cs := #[.slice none 0 0, .slice none 0 0, .slice none 0 0, .slice none 0 0, .slice none 0 0]) (t := 31) ?hr ?_; (case hd => rfl); (case hg => rfl); (case hr => first | (go_simp; done) | (go_simp; rfl)); intro gb109 hg w7 hbox hb; have BK109 := Aside0.mk (hbox); have GW109 := Aside0.mk ((by rw [hg]; exact (below_size (Sq.kl1 HB GE108)) : w.heap.size ≤ gb109)); have GE109 := Aside0.mk ((by rw [hg]; exact (below_size (Sq.kl1 HB GE108)) : w.heap.size ≤ gb109)); replace HB := Aside0.mk (below_step (Sq.kl1 HB GE108) hb); have NB108_109 := Aside0.mk ((by rw [hg]; exact Nat.ne_of_lt (blk_lt (kb BK108)) : gb108 ≠ gb109)); have NB109_108 := Aside0.mk ((by rw [hg]; exact Nat.ne_of_gt (blk_lt (kb BK108)) : gb109 ≠ gb108)); replace BK108 := kbb BK108 hb; clear hb hbox hg; have hnb8 := NB108_109.out; have hnc8 := NB109_108.out; obtain ⟨hcz9_0, hcz9_1, hcz9_2, hcz9_3, hcz9_4, hcz9_5, hcz9_6⟩ := Sq.c7 BK108; obtain ⟨hfz9_0, hfz9_1, hfz9_2, hfz9_3, hfz9_4, hfz9_5, hfz9_6⟩ := Sq.z7 BK108) | ((with_reducible refine gate_callee (f := 42) rfl ?_); refine goesL_ (some 35) rfl rfl Try.func42 (by kernel_rfl) rfl #[.agg #[.int .i64 a1_0, .int .i64 a1_1, .int .i64 a1_2, .int .i64 a1_3, .int .i64 a1_4, .int .i64 a1_5, .int .i64 a1_6]] rfl (by (try simp only [List.map_toArray, List.map_cons, List.map_nil]); first | done | rfl | (simp only [List.length_drop, List.length_take]; rfl)) ?_; (with_reducible refine (longcaseref05_Right.calls k a1_0 a1_1 a1_2 a1_3 a1_4 a1_5 a1_6 t110 _ A4.out).mono ?_); rintro e w10 ⟨rfl, hb⟩; refine ⟨_, rfl, ?_⟩; replace BK108 := kbb BK108 hb; replace BK109 := kbb BK109 hb; replace HB := Aside0.mk (below_step (Sq.kl2 HB GE108 GE109) hb); (try clear hb)))
 (try simp only [Act.put, List.setIfInBounds_toArray, List.set_cons_zero, List.set_cons_succ])
 go_cut [45] (fun v45 wc => ∃ (kq : Nat) (x45_4 : Bool), v45 = .bool x45_4 ∧ Aside0 (longcaseref06_Decode.j0 kq l0 a2 x45_4 a1_0 a1_1 a1_2 a1_3 a1_4 a1_5 a1_6 = some (r1, r2, r3, r4, r5, r6)) ∧ Aside0 (kq ≤ k) ∧ Aside0 (wc.heap[gb108]? = some (.cells #[.int .i64 a1_0, .int .i64 a1_1, .int .i64 a1_2, .int .i64 a1_3, .int .i64 a1_4, .int .i64 a1_5, .int .i64 a1_6] 41 (0, 0))) ∧ Aside0 (wc.heap[gb109]? = some (.cells #[(.slice none 0 0), (.slice none 0 0), (.slice none 0 0), (.slice none 0 0), (.slice none 0 0)] 31 (0, 0))) ∧ Aside0 (Below w.heap.size w wc))
 case first =>
  have H := HC5.out
  clear HC5
  by_cases c11 : t110 = true
  rotate_left
  ·
   replace c11 := Bool.eq_false_iff.mpr c11
   subst c11
   rw [if_neg (show ¬ (false = true) by decide)] at H
   have H' := Aside0.mk H
   clear H
   go_wp2
   go_meet
   case rel => exact ⟨_, (true), (by first | rfl | (simp; done) | (simp [*]; done)), H', ⟨by first | omega | exact Nat.le_refl _⟩, ⟨Sq.kb BK108⟩, ⟨Sq.kb BK109⟩, ⟨Sq.kl2 HB GE108 GE109⟩⟩
  subst c11
  rw [if_pos rfl] at H
  by_cases c12 : a2 = 4
  rotate_left
  ·
   rw [if_neg c12] at H
   have c12b0 : (a2 == 4) = false := beq_eq_false_iff_ne.mpr c12
   have c12b1 : (a2 != 4) = true := bne_iff_ne.mpr c12
   (first | rw [c12b0] | rw [c12b1] | (simp only [i64_w, i32_w]; rw [c12b0]) | skip)
   have H' := Aside0.mk H
   clear H
   go_wp2
   go_meet
   case rel => exact ⟨_, ((a2 != 8)), (by first | rfl | (simp; done) | (simp [*]; done)), H', ⟨by first | omega | exact Nat.le_refl _⟩, ⟨Sq.kb BK108⟩, ⟨Sq.kb BK109⟩, ⟨Sq.kl2 HB GE108 GE109⟩⟩
  rw [if_pos c12] at H
  have c12b0 : (a2 == 4) = true := beq_iff_eq.mpr c12
  have c12b1 : (a2 != 4) = false := bne_eq_false_iff_eq.mpr c12
  clear c12
  (first | rw [c12b0] | rw [c12b1] | (simp only [i64_w, i32_w]; rw [c12b0]) | skip)
  have H' := Aside0.mk H
  clear H
  go_wp2
  go_meet
  case rel => exact ⟨_, (false), (by first | rfl | (simp; done) | (simp [*]; done)), H', ⟨by first | omega | exact Nat.le_refl _⟩, ⟨Sq.kb BK108⟩, ⟨Sq.kb BK109⟩, ⟨Sq.kl2 HB GE108 GE109⟩⟩
 clear HC5
 try clear c1
 try clear c2
 try clear p2
 try clear c4
 try clear c8
 try clear c11
 try clear c12
 try clear c12b0
 try clear c12b1
 try clear hcz9_0
 try clear hcz9_1
 try clear hcz9_2
 try clear hcz9_3
 try clear hcz9_4
 try clear hcz9_5
 try clear hcz9_6
 try clear hfz9_0
 try clear hfz9_1
 try clear hfz9_2
 try clear hfz9_3
 try clear hfz9_4
 try clear hfz9_5
 try clear hfz9_6
 obtain ⟨kq, x45_4, rfl, HA, HJ4, BK108, BK109, HB⟩ := hcut
 cases kq with
 | zero => exact absurd HA.out (by simp [longcaseref06_Decode.j0])
 | succ kj4 =>
  have H := HA.out
  clear HA
  simp only [longcaseref06_Decode.j0] at H
  by_cases c13 : x45_4 = true
  ·
   subst c13
   rw [if_pos rfl] at H
   simp only [Option.some.injEq, Prod.mk.injEq] at H
   obtain ⟨rfl, rfl, rfl, rfl, rfl, rfl⟩ := H
   have hnb14 := NB109_108.out
   have hnc14 := NB108_109.out
   obtain ⟨hcz15_0, hcz15_1, hcz15_2, hcz15_3, hcz15_4⟩ := Sq.c5 BK109
   obtain ⟨hfz15_0, hfz15_1, hfz15_2, hfz15_3, hfz15_4⟩ := Sq.z5 BK109
   go_wp2
   refine bodyPost_ret (results_ct rfl _ _ gb109 31 #[.slice none 0 0, .slice none 0 0, .slice none 0 0, .slice none 0 0, .slice none 0 0] (0, 0) _ rfl (by (with_reducible repeat (first | refine blk_drewN ?_ _ | refine blk_drew ?_ | refine blk_alloc ?_ _)); refine blk_put (cs := #[.slice none 0 0, .slice none 0 0, .slice none 0 0, .slice none 0 0, .slice none 0 0]) ?_ 4 _ rfl; (with_reducible repeat (first | refine blk_drewN ?_ _ | refine blk_drew ?_ | refine blk_alloc ?_ _)); refine blk_put (cs := #[.slice none 0 0, .slice none 0 0, .slice none 0 0, .slice none 0 0, .slice none 0 0]) ?_ 3 _ rfl; (with_reducible repeat (first | refine blk_drewN ?_ _ | refine blk_drew ?_ | refine blk_alloc ?_ _)); refine blk_put (cs := #[.slice none 0 0, .slice none 0 0, .slice none 0 0, .slice none 0 0, .slice none 0 0]) ?_ 2 _ rfl; (with_reducible repeat (first | refine blk_drewN ?_ _ | refine blk_drew ?_ | refine blk_alloc ?_ _)); refine blk_put (cs := #[.slice none 0 0, .slice none 0 0, .slice none 0 0, .slice none 0 0, .slice none 0 0]) ?_ 1 _ rfl; (with_reducible repeat (first | refine blk_drewN ?_ _ | refine blk_drew ?_ | refine blk_alloc ?_ _)); refine blk_put (cs := #[.slice none 0 0, .slice none 0 0, .slice none 0 0, .slice none 0 0, .slice none 0 0]) ?_ 0 _ rfl; exact Sq.kb BK109) Try.underlying31 rfl (by kernel_rfl)) rfl ?_
   exact ⟨_, _, _, _, _, by first | rfl | (simp [errW_none, errW_some] <;> rfl) | (simp [*, errW_none, errW_some] <;> rfl), by first | exact Kd.R_nil _ _ _ _ _ | exact Kd.N_nil _ _ _ _ _ | exact Kd.V_nil _ _ _ _ _ | exact Kd.Q_nil _ _ _ _ _ | exact Kd.S_nil _ _ _ _ _, by first | exact Kd.R_nil _ _ _ _ _ | exact Kd.N_nil _ _ _ _ _ | exact Kd.V_nil _ _ _ _ _ | exact Kd.Q_nil _ _ _ _ _ | exact Kd.S_nil _ _ _ _ _, by first | exact Kd.R_nil _ _ _ _ _ | exact Kd.N_nil _ _ _ _ _ | exact Kd.V_nil _ _ _ _ _ | exact Kd.Q_nil _ _ _ _ _ | exact Kd.S_nil _ _ _ _ _, by first | exact Kd.R_nil _ _ _ _ _ | exact Kd.N_nil _ _ _ _ _ | exact Kd.V_nil _ _ _ _ _ | exact Kd.Q_nil _ _ _ _ _ | exact Kd.S_nil _ _ _ _ _, by first | exact Kd.R_nil _ _ _ _ _ | exact Kd.N_nil _ _ _ _ _ | exact Kd.V_nil _ _ _ _ _ | exact Kd.Q_nil _ _ _ _ _ | exact Kd.S_nil _ _ _ _ _, by repeat (first | (with_reducible first | exact HB.out | apply below_alloc | apply pw_below_drewN | apply below_drew1 | refine below_set ?_ GE108.out | refine below_set ?_ GE109.out) | exact HB.out)⟩
  replace c13 := Bool.eq_false_iff.mpr c13
  subst c13
  rw [if_neg (show ¬ (false = true) by decide)] at H
  replace H := Option.bind_eq_some_iff.mp H
  obtain ⟨t111, A160, H⟩ := H
  replace H : (if (l0.length : Int) < t111 then (some (([] : List (S56)), ([] : List (S54)), ([] : List (S67)), ([] : List Bool), ([] : List Bool), 5)) else (longcaseref06_Decode.l0 kj4 l0 a2 0 (wrap64 (a1_4 * a2)) (wrap64 ((wrap64 (a1_4 * a2)) + a1_4)) (wrap64 ((wrap64 ((wrap64 (a1_4 * a2)) + a1_4)) + (wrap64 (6 * a1_5)))) (wrap64 ((wrap64 ((wrap64 ((wrap64 (a1_4 * a2)) + a1_4)) + (wrap64 (6 * a1_5)))) + a1_6)) (wrap64 ((wrap64 ((wrap64 ((wrap64 ((wrap64 (a1_4 * a2)) + a1_4)) + (wrap64 (6 * a1_5)))) + a1_6)) + (wrap64 (a1_3 * (wrap64 (a2 + 4)))))) (wrap64 ((wrap64 ((wrap64 ((wrap64 ((wrap64 ((wrap64 (a1_4 * a2)) + a1_4)) + (wrap64 (6 * a1_5)))) + a1_6)) + (wrap64 (a1_3 * (wrap64 (a2 + 4)))))) + a1_2)) 0 a1_0 a1_1 a1_2 a1_3 a1_4 a1_5 a1_6 ([] : List (S54)))) = some (r1, r2, r3, r4, r5, r6) := H
  have A16 := Aside0.mk A160
  clear A160
  by_cases c17 : (l0.length : Int) < t111
  ·
   rw [if_pos c17] at H
   have c17b0 : decide ((l0.length : Int) < t111) = true := decide_eq_true c17
   clear c17
   simp only [Option.some.injEq, Prod.mk.injEq] at H
   obtain ⟨rfl, rfl, rfl, rfl, rfl, rfl⟩ := H
   have hnb18 := NB108_109.out
   have hnc18 := NB109_108.out
   obtain ⟨hcz19_0, hcz19_1, hcz19_2, hcz19_3, hcz19_4, hcz19_5, hcz19_6⟩ := Sq.c7 BK108
   obtain ⟨hfz19_0, hfz19_1, hfz19_2, hfz19_3, hfz19_4, hfz19_5, hfz19_6⟩ := Sq.z7 BK108
   go_wp2_with (first | ((with_reducible refine gate_callee (f := 43) rfl ?_); refine goesL_ (some 51) rfl rfl Try.func43 (by kernel_rfl) rfl #[.agg #[.int .i64 a1_0, .int .i64 a1_1, .int .i64 a1_2, .int .i64 a1_3, .int .i64 a1_4, .int .i64 a1_5, .int .i64 a1_6], .int .i64 a2] rfl (by (try simp only [List.map_toArray, List.map_cons, List.map_nil]); first | done | rfl | (simp only [List.length_drop, List.length_take]; rfl)) ?_; (with_reducible refine (longcaseref05_Body.calls a1_0 a1_1 a1_2 a1_3 a1_4 a1_5 a1_6 a2 t111 _ A16.out).mono ?_); rintro e w20 ⟨rfl, hb⟩; refine ⟨_, rfl, ?_⟩; replace BK108 := kbb BK108 hb; replace BK109 := kbb BK109 hb; replace HB := Aside0.mk (below_step (Sq.kl2 HB GE108 GE109) hb); (try clear hb); obtain ⟨hcz21_0, hcz21_1, hcz21_2, hcz21_3, hcz21_4⟩ := Sq.c5 BK109; obtain ⟨hfz21_0, hfz21_1, hfz21_2, hfz21_3, hfz21_4⟩ := Sq.z5 BK109))
   refine bodyPost_ret (results_ct rfl _ _ gb109 31 #[.slice none 0 0, .slice none 0 0, .slice none 0 0, .slice none 0 0, .slice none 0 0] (0, 0) _ rfl (by (with_reducible repeat (first | refine blk_drewN ?_ _ | refine blk_drew ?_ | refine blk_alloc ?_ _)); refine blk_put (cs := #[.slice none 0 0, .slice none 0 0, .slice none 0 0, .slice none 0 0, .slice none 0 0]) ?_ 4 _ rfl; (with_reducible repeat (first | refine blk_drewN ?_ _ | refine blk_drew ?_ | refine blk_alloc ?_ _)); refine blk_put (cs := #[.slice none 0 0, .slice none 0 0, .slice none 0 0, .slice none 0 0, .slice none 0 0]) ?_ 3 _ rfl; (with_reducible repeat (first | refine blk_drewN ?_ _ | refine blk_drew ?_ | refine blk_alloc ?_ _)); refine blk_put (cs := #[.slice none 0 0, .slice none 0 0, .slice none 0 0, .slice none 0 0, .slice none 0 0]) ?_ 2 _ rfl; (with_reducible repeat (first | refine blk_drewN ?_ _ | refine blk_drew ?_ | refine blk_alloc ?_ _)); refine blk_put (cs := #[.slice none 0 0, .slice none 0 0, .slice none 0 0, .slice none 0 0, .slice none 0 0]) ?_ 1 _ rfl; (with_reducible repeat (first | refine blk_drewN ?_ _ | refine blk_drew ?_ | refine blk_alloc ?_ _)); refine blk_put (cs := #[.slice none 0 0, .slice none 0 0, .slice none 0 0, .slice none 0 0, .slice none 0 0]) ?_ 0 _ rfl; exact Sq.kb BK109) Try.underlying31 rfl (by kernel_rfl)) rfl ?_
   exact ⟨_, _, _, _, _, by first | rfl | (simp [errW_none, errW_some] <;> rfl) | (simp [*, errW_none, errW_some] <;> rfl), by first | exact Kd.R_nil _ _ _ _ _ | exact Kd.N_nil _ _ _ _ _ | exact Kd.V_nil _ _ _ _ _ | exact Kd.Q_nil _ _ _ _ _ | exact Kd.S_nil _ _ _ _ _, by first | exact Kd.R_nil _ _ _ _ _ | exact Kd.N_nil _ _ _ _ _ | exact Kd.V_nil _ _ _ _ _ | exact Kd.Q_nil _ _ _ _ _ | exact Kd.S_nil _ _ _ _ _, by first | exact Kd.R_nil _ _ _ _ _ | exact Kd.N_nil _ _ _ _ _ | exact Kd.V_nil _ _ _ _ _ | exact Kd.Q_nil _ _ _ _ _ | exact Kd.S_nil _ _ _ _ _, by first | exact Kd.R_nil _ _ _ _ _ | exact Kd.N_nil _ _ _ _ _ | exact Kd.V_nil _ _ _ _ _ | exact Kd.Q_nil _ _ _ _ _ | exact Kd.S_nil _ _ _ _ _, by first | exact Kd.R_nil _ _ _ _ _ | exact Kd.N_nil _ _ _ _ _ | exact Kd.V_nil _ _ _ _ _ | exact Kd.Q_nil _ _ _ _ _ | exact Kd.S_nil _ _ _ _ _, by repeat (first | (with_reducible first | exact HB.out | apply below_alloc | apply pw_below_drewN | apply below_drew1 | refine below_set ?_ GE108.out | refine below_set ?_ GE109.out) | exact HB.out)⟩
  rw [if_neg c17] at H
  have c17b0 : decide ((l0.length : Int) < t111) = false := decide_eq_false c17
  clear c17
  have H' := Aside0.mk H
  clear H
  have hnb22 := NB108_109.out
  have hnc22 := NB109_108.out
  obtain ⟨hcz23_0, hcz23_1, hcz23_2, hcz23_3, hcz23_4, hcz23_5, hcz23_6⟩ := Sq.c7 BK108
  obtain ⟨hfz23_0, hfz23_1, hfz23_2, hfz23_3, hfz23_4, hfz23_5, hfz23_6⟩ := Sq.z7 BK108
  as_aux_lemma =>
   go_wp2_with (first | ((with_reducible refine gate_callee (f := 43) rfl ?_); refine goesL_ (some 51) rfl rfl Try.func43 (by kernel_rfl) rfl #[.agg #[.int .i64 a1_0, .int .i64 a1_1, .int .i64 a1_2, .int .i64 a1_3, .int .i64 a1_4, .int .i64 a1_5, .int .i64 a1_6], .int .i64 a2] rfl (by (try simp only [List.map_toArray, List.map_cons, List.map_nil]); first | done | rfl | (simp only [List.length_drop, List.length_take]; rfl)) ?_; (with_reducible refine (longcaseref05_Body.calls a1_0 a1_1 a1_2 a1_3 a1_4 a1_5 a1_6 a2 t111 _ A16.out).mono ?_); rintro e w24 ⟨rfl, hb⟩; refine ⟨_, rfl, ?_⟩; replace BK108 := kbb BK108 hb; replace BK109 := kbb BK109 hb; replace HB := Aside0.mk (below_step (Sq.kl2 HB GE108 GE109) hb); (try clear hb)) | ((with_reducible refine gate_dst (N := 9) rfl ?_); refine box_event ?hg (N := 9) ?hd (cs := #[.slice none 0 0, .slice none 0 0, .slice none 0 0, .slice none 0 0, .slice none 0 0]) (t := 31) ?hr ?_; (case hd => rfl); (case hg => rfl); (case hr => first | (go_simp; done) | (go_simp; rfl)); intro gb112 hg w25 hbox hb; have BK112 := Aside0.mk (hbox); have GW112 := Aside0.mk ((by rw [hg]; exact (below_size (Sq.kl2 HB GE108 GE109)) : w.heap.size ≤ gb112)); have GE112 := Aside0.mk ((by rw [hg]; exact (below_size (Sq.kl2 HB GE108 GE109)) : w.heap.size ≤ gb112)); replace HB := Aside0.mk (below_step (Sq.kl2 HB GE108 GE109) hb); have NB108_112 := Aside0.mk ((by rw [hg]; exact Nat.ne_of_lt (blk_lt (kb BK108)) : gb108 ≠ gb112)); have NB112_108 := Aside0.mk ((by rw [hg]; exact Nat.ne_of_gt (blk_lt (kb BK108)) : gb112 ≠ gb108)); replace BK108 := kbb BK108 hb; have NB109_112 := Aside0.mk ((by rw [hg]; exact Nat.ne_of_lt (blk_lt (kb BK109)) : gb109 ≠ gb112)); have NB112_109 := Aside0.mk ((by rw [hg]; exact Nat.ne_of_gt (blk_lt (kb BK109)) : gb112 ≠ gb109)); replace BK109 := kbb BK109 hb; clear hb hbox hg; have hnb26 := NB112_108.out; have hnc26 := NB108_112.out; have hnb27 := NB112_109.out; have hnc27 := NB109_112.out; obtain ⟨hcz28_0, hcz28_1, hcz28_2, hcz28_3, hcz28_4⟩ := Sq.c5 BK112; obtain ⟨hfz28_0, hfz28_1, hfz28_2, hfz28_3, hfz28_4⟩ := Sq.z5 BK112; obtain ⟨hcz29_0, hcz29_1, hcz29_2, hcz29_3, hcz29_4, hcz29_5, hcz29_6⟩ := Sq.c7 BK108; obtain ⟨hfz29_0, hfz29_1, hfz29_2, hfz29_3, hfz29_4, hfz29_5, hfz29_6⟩ := Sq.z7 BK108))
   go_loopg [17] kj4 (fun kq v17 w' => ∃ (x17_2 : Int) (x113001_2 : List (S54)) (u113001 : Value), v17 = .int .i64 x17_2 ∧ Aside0 (longcaseref06_Decode.l0 kq l0 a2 0 (wrap64 (a1_4 * a2)) (wrap64 ((wrap64 (a1_4 * a2)) + a1_4)) (wrap64 ((wrap64 ((wrap64 (a1_4 * a2)) + a1_4)) + (wrap64 (6 * a1_5)))) (wrap64 ((wrap64 ((wrap64 ((wrap64 (a1_4 * a2)) + a1_4)) + (wrap64 (6 * a1_5)))) + a1_6)) (wrap64 ((wrap64 ((wrap64 ((wrap64 ((wrap64 (a1_4 * a2)) + a1_4)) + (wrap64 (6 * a1_5)))) + a1_6)) + (wrap64 (a1_3 * (wrap64 (a2 + 4)))))) (wrap64 ((wrap64 ((wrap64 ((wrap64 ((wrap64 ((wrap64 (a1_4 * a2)) + a1_4)) + (wrap64 (6 * a1_5)))) + a1_6)) + (wrap64 (a1_3 * (wrap64 (a2 + 4)))))) + a1_2)) x17_2 a1_0 a1_1 a1_2 a1_3 a1_4 a1_5 a1_6 x113001_2 = some (r1, r2, r3, r4, r5, r6)) ∧ Aside0 (kq ≤ kj4) ∧ Aside0 (Kd.R k54 54 w' w.heap.size (fun _ => True) u113001 x113001_2) ∧ Aside0 (w'.heap[gb108]? = some (.cells #[.int .i64 a1_0, .int .i64 a1_1, .int .i64 a1_2, .int .i64 a1_3, .int .i64 a1_4, .int .i64 a1_5, .int .i64 a1_6] 41 (0, 0))) ∧ Aside0 (w'.heap[gb109]? = some (.cells #[(.slice none 0 0), (.slice none 0 0), (.slice none 0 0), (.slice none 0 0), (.slice none 0 0)] 31 (0, 0))) ∧ Aside0 (w'.heap[gb112]? = some (.cells #[(.slice none 0 0), u113001, (.slice none 0 0), (.slice none 0 0), (.slice none 0 0)] 31 (0, 0))) ∧ Aside0 (Below w.heap.size w w'))
   case atStart => exact ⟨(0), (([] : List (S54))), (.slice none 0 0), (by first | rfl | (simp; done) | (simp [*]; done)), H', ⟨Nat.le_refl _⟩, ⟨by first | exact Kd.R_nil _ _ _ _ _ | exact Kd.N_nil _ _ _ _ _ | exact Kd.V_nil _ _ _ _ _ | exact Kd.Q_nil _ _ _ _ _ | exact Kd.S_nil _ _ _ _ _⟩, ⟨by (with_reducible repeat (first | refine blk_drewN ?_ _ | refine blk_drew ?_ | refine blk_alloc ?_ _)); refine blk_far ?_ NB108_112.out _; (with_reducible repeat (first | refine blk_drewN ?_ _ | refine blk_drew ?_ | refine blk_alloc ?_ _)); refine blk_far ?_ NB108_112.out _; (with_reducible repeat (first | refine blk_drewN ?_ _ | refine blk_drew ?_ | refine blk_alloc ?_ _)); refine blk_far ?_ NB108_112.out _; (with_reducible repeat (first | refine blk_drewN ?_ _ | refine blk_drew ?_ | refine blk_alloc ?_ _)); refine blk_far ?_ NB108_112.out _; (with_reducible repeat (first | refine blk_drewN ?_ _ | refine blk_drew ?_ | refine blk_alloc ?_ _)); refine blk_far ?_ NB108_112.out _; exact Sq.kb BK108⟩, ⟨by (with_reducible repeat (first | refine blk_drewN ?_ _ | refine blk_drew ?_ | refine blk_alloc ?_ _)); refine blk_far ?_ NB109_112.out _; (with_reducible repeat (first | refine blk_drewN ?_ _ | refine blk_drew ?_ | refine blk_alloc ?_ _)); refine blk_far ?_ NB109_112.out _; (with_reducible repeat (first | refine blk_drewN ?_ _ | refine blk_drew ?_ | refine blk_alloc ?_ _)); refine blk_far ?_ NB109_112.out _; (with_reducible repeat (first | refine blk_drewN ?_ _ | refine blk_drew ?_ | refine blk_alloc ?_ _)); refine blk_far ?_ NB109_112.out _; (with_reducible repeat (first | refine blk_drewN ?_ _ | refine blk_drew ?_ | refine blk_alloc ?_ _)); refine blk_far ?_ NB109_112.out _; exact Sq.kb BK109⟩, ⟨by (with_reducible repeat (first | refine blk_drewN ?_ _ | refine blk_drew ?_ | refine blk_alloc ?_ _)); refine blk_put (cs := #[.slice none 0 0, .slice none 0 0, .slice none 0 0, .slice none 0 0, .slice none 0 0]) ?_ 4 _ rfl; (with_reducible repeat (first | refine blk_drewN ?_ _ | refine blk_drew ?_ | refine blk_alloc ?_ _)); refine blk_put (cs := #[.slice none 0 0, .slice none 0 0, .slice none 0 0, .slice none 0 0, .slice none 0 0]) ?_ 3 _ rfl; (with_reducible repeat (first | refine blk_drewN ?_ _ | refine blk_drew ?_ | refine blk_alloc ?_ _)); refine blk_put (cs := #[.slice none 0 0, .slice none 0 0, .slice none 0 0, .slice none 0 0, .slice none 0 0]) ?_ 2 _ rfl; (with_reducible repeat (first | refine blk_drewN ?_ _ | refine blk_drew ?_ | refine blk_alloc ?_ _)); refine blk_put (cs := #[.slice none 0 0, .slice none 0 0, .slice none 0 0, .slice none 0 0, .slice none 0 0]) ?_ 1 _ rfl; (with_reducible repeat (first | refine blk_drewN ?_ _ | refine blk_drew ?_ | refine blk_alloc ?_ _)); refine blk_put (cs := #[.slice none 0 0, .slice none 0 0, .slice none 0 0, .slice none 0 0, .slice none 0 0]) ?_ 0 _ rfl; exact Sq.kb BK112⟩, ⟨Sq.kl3 HB GE108 GE109 GE112⟩⟩
   as_aux_lemma =>
    clear H'
    try clear c1
    try clear c2
    try clear p2
    try clear c4
    try clear p6
    try clear c8
    try clear c11
    try clear c12
    try clear c12b0
    try clear c12b1
    try clear c13
    try clear c14
    try clear c17
    try clear c17b0
    try clear c18
    try clear c22
    try clear c26
    try clear c27
    try clear hcz15_0
    try clear hcz15_1
    try clear hcz15_2
    try clear hcz15_3
    try clear hcz15_4
    try clear hcz19_0
    try clear hcz19_1
    try clear hcz19_2
    try clear hcz19_3
    try clear hcz19_4
    try clear hcz19_5
    try clear hcz19_6
    try clear hcz21_0
    try clear hcz21_1
    try clear hcz21_2
    try clear hcz21_3
    try clear hcz21_4
    try clear hcz23_0
    try clear hcz23_1
    try clear hcz23_2
    try clear hcz23_3
    try clear hcz23_4
    try clear hcz23_5
    try clear hcz23_6
    try clear hcz28_0
    try clear hcz28_1
    try clear hcz28_2
    try clear hcz28_3
    try clear hcz28_4
    try clear hcz29_0
    try clear hcz29_1
    try clear hcz29_2
    try clear hcz29_3
    try clear hcz29_4
    try clear hcz29_5
    try clear hcz29_6
    try clear hcz9_0
    try clear hcz9_1
    try clear hcz9_2
    try clear hcz9_3
    try clear hcz9_4
    try clear hcz9_5
    try clear hcz9_6
    try clear hfz15_0
    try clear hfz15_1
    try clear hfz15_2
    try clear hfz15_3
    try clear hfz15_4
    try clear hfz19_0
    try clear hfz19_1
    try clear hfz19_2
    try clear hfz19_3
    try clear hfz19_4
    try clear hfz19_5
    try clear hfz19_6
    try clear hfz21_0
    try clear hfz21_1
    try clear hfz21_2
    try clear hfz21_3
    try clear hfz21_4
    try clear hfz23_0
    try clear hfz23_1
    try clear hfz23_2
    try clear hfz23_3
    try clear hfz23_4
    try clear hfz23_5
    try clear hfz23_6
    try clear hfz28_0
    try clear hfz28_1
    try clear hfz28_2
    try clear hfz28_3
    try clear hfz28_4
    try clear hfz29_0
    try clear hfz29_1
    try clear hfz29_2
    try clear hfz29_3
    try clear hfz29_4
    try clear hfz29_5
    try clear hfz29_6
    try clear hfz9_0
    try clear hfz9_1
    try clear hfz9_2
    try clear hfz9_3
    try clear hfz9_4
    try clear hfz9_5
    try clear hfz9_6
    try clear p2
    obtain ⟨x17_2, x113001_2, u113001, rfl, HA, HK2, HO_113001, BK108, BK109, BK112, HB⟩ := hrel
    cases gk with
    | zero => exact absurd HA.out (by simp [longcaseref06_Decode.l0])
    | succ k2 =>
     have H := HA.out
     clear HA
     simp only [longcaseref06_Decode.l0] at H
     by_cases c30 : x17_2 < a1_4
     ·
      rw [if_pos c30] at H
      have c30b0 : decide (x17_2 < a1_4) = true := decide_eq_true c30
      clear c30
      replace H := Option.bind_eq_some_iff.mp H
      obtain ⟨⟨t113, t114⟩, A310, H⟩ := H
      replace H : (if 0 ≤ (wrap64 ((wrap64 (a1_4 * a2)) + x17_2)) then (if (wrap64 ((wrap64 (a1_4 * a2)) + x17_2)) < (l0.length : Int) then (if x113001_2.length < 8796093022208 then (longcaseref06_Decode.l0 k2 l0 a2 0 (wrap64 (a1_4 * a2)) (wrap64 ((wrap64 (a1_4 * a2)) + a1_4)) (wrap64 ((wrap64 ((wrap64 (a1_4 * a2)) + a1_4)) + (wrap64 (6 * a1_5)))) (wrap64 ((wrap64 ((wrap64 ((wrap64 (a1_4 * a2)) + a1_4)) + (wrap64 (6 * a1_5)))) + a1_6)) (wrap64 ((wrap64 ((wrap64 ((wrap64 ((wrap64 (a1_4 * a2)) + a1_4)) + (wrap64 (6 * a1_5)))) + a1_6)) + (wrap64 (a1_3 * (wrap64 (a2 + 4)))))) (wrap64 ((wrap64 ((wrap64 ((wrap64 ((wrap64 ((wrap64 (a1_4 * a2)) + a1_4)) + (wrap64 (6 * a1_5)))) + a1_6)) + (wrap64 (a1_3 * (wrap64 (a2 + 4)))))) + a1_2)) (wrap64 (x17_2 + 1)) a1_0 a1_1 a1_2 a1_3 a1_4 a1_5 a1_6 (x113001_2 ++ [(⟨t113, wrap64 (rd l0 (wrap64 ((wrap64 (a1_4 * a2)) + x17_2)))⟩ : S54)])) else (none)) else (none)) else (none)) = some (r1, r2, r3, r4, r5, r6) := H
      have A31 := Aside0.mk A310
      clear A310
      obtain ⟨ji32, hji32⟩ : ∃ j_ : Int, (wrap64 ((wrap64 (a1_4 * a2)) + x17_2)) = j_ := ⟨_, rfl⟩
      replace H : (if 0 ≤ (ji32) then (if (ji32) < (l0.length : Int) then (if x113001_2.length < 8796093022208 then (longcaseref06_Decode.l0 k2 l0 a2 0 (wrap64 (a1_4 * a2)) (wrap64 ((wrap64 (a1_4 * a2)) + a1_4)) (wrap64 ((wrap64 ((wrap64 (a1_4 * a2)) + a1_4)) + (wrap64 (6 * a1_5)))) (wrap64 ((wrap64 ((wrap64 ((wrap64 (a1_4 * a2)) + a1_4)) + (wrap64 (6 * a1_5)))) + a1_6)) (wrap64 ((wrap64 ((wrap64 ((wrap64 ((wrap64 (a1_4 * a2)) + a1_4)) + (wrap64 (6 * a1_5)))) + a1_6)) + (wrap64 (a1_3 * (wrap64 (a2 + 4)))))) (wrap64 ((wrap64 ((wrap64 ((wrap64 ((wrap64 ((wrap64 (a1_4 * a2)) + a1_4)) + (wrap64 (6 * a1_5)))) + a1_6)) + (wrap64 (a1_3 * (wrap64 (a2 + 4)))))) + a1_2)) (wrap64 (x17_2 + 1)) a1_0 a1_1 a1_2 a1_3 a1_4 a1_5 a1_6 (x113001_2 ++ [(⟨t113, wrap64 (rd l0 (ji32))⟩ : S54)])) else (none)) else (none)) else (none)) = some (r1, r2, r3, r4, r5, r6) := by first | (rw [hji32] at H; exact H) | (simp only [hji32] at H ⊢; exact H)
      (try rw [hji32] at A31)
      replace A31 := Aside0.mk (by have h_ := A31.out; rw [Int.zero_add] at h_; exact h_)
      have hji32w : (IntKind.i64.wrap ((wrap64 (a1_4 * a2)) + x17_2)) = ji32 := (i64_w _).trans hji32
      by_cases c33 : 0 ≤ (ji32)
      rotate_left
      ·
       rw [if_neg c33] at H
       exact absurd H (by simp)
      rw [if_pos c33] at H
      have c33b0 : decide (0 ≤ (ji32)) = true := decide_eq_true c33
      clear c33
      by_cases c34 : (ji32) < (l0.length : Int)
      rotate_left
      ·
       rw [if_neg c34] at H
       exact absurd H (by simp)
      rw [if_pos c34] at H
      have c34b0 : decide ((ji32) < (l0.length : Int)) = true := decide_eq_true c34
      clear c34
      by_cases c35 : x113001_2.length < 8796093022208
      rotate_left
      ·
       rw [if_neg c35] at H
       exact absurd H (by simp)
      rw [if_pos c35] at H
      have LMc35 := Aside0.mk c35
      clear c35
      obtain ⟨y116, hy116⟩ : ∃ y_ : List (S54), y_ = (x113001_2 ++ [(⟨t113, wrap64 (rd l0 (ji32))⟩ : S54)]) := ⟨_, rfl⟩
      replace H : (longcaseref06_Decode.l0 k2 l0 a2 0 (wrap64 (a1_4 * a2)) (wrap64 ((wrap64 (a1_4 * a2)) + a1_4)) (wrap64 ((wrap64 ((wrap64 (a1_4 * a2)) + a1_4)) + (wrap64 (6 * a1_5)))) (wrap64 ((wrap64 ((wrap64 ((wrap64 (a1_4 * a2)) + a1_4)) + (wrap64 (6 * a1_5)))) + a1_6)) (wrap64 ((wrap64 ((wrap64 ((wrap64 ((wrap64 (a1_4 * a2)) + a1_4)) + (wrap64 (6 * a1_5)))) + a1_6)) + (wrap64 (a1_3 * (wrap64 (a2 + 4)))))) (wrap64 ((wrap64 ((wrap64 ((wrap64 ((wrap64 ((wrap64 (a1_4 * a2)) + a1_4)) + (wrap64 (6 * a1_5)))) + a1_6)) + (wrap64 (a1_3 * (wrap64 (a2 + 4)))))) + a1_2)) (wrap64 (x17_2 + 1)) a1_0 a1_1 a1_2 a1_3 a1_4 a1_5 a1_6 y116) = some (r1, r2, r3, r4, r5, r6) := by first | (rw [hy116]; with_reducible exact H) | (have H2_ := (Option.bind_some _ _).symm.trans H; rw [hy116]; with_reducible exact H2_) | (have H2_ := (Option.bind_some _ _).symm.trans H; with_reducible exact H2_) | with_reducible exact H | (rw [hy116]; exact H) | exact H
      have Ny116 := Aside0.mk hy116
      clear hy116
      have H' := Aside0.mk H
      clear H
      have hnb36 := NB108_109.out
      have hnc36 := NB109_108.out
      have hnb37 := NB108_112.out
      have hnc37 := NB112_108.out
      obtain ⟨hcz38_0, hcz38_1, hcz38_2, hcz38_3, hcz38_4, hcz38_5, hcz38_6⟩ := Sq.c7 BK108
      obtain ⟨hfz38_0, hfz38_1, hfz38_2, hfz38_3, hfz38_4, hfz38_5, hfz38_6⟩ := Sq.z7 BK108
      as_aux_lemma =>
       try go_wp2_with (first | ((with_reducible refine gate_callee (f := 44) rfl ?_); refine goesL_ (some 97) rfl rfl Try.func44 (by kernel_rfl) rfl #[.slice A0 l0.length c0, .int .i64 (wrap64 (wrap64 (x17_2 * a2))), .int .i64 a2] rfl (by (try simp only [List.map_toArray, List.map_cons, List.map_nil]); first | done | rfl | (simp only [List.length_drop, List.length_take]; rfl)) ?_; (with_reducible refine (longcaseref04_Int.calls k2 _ _ l0 (wrap64 (wrap64 (x17_2 * a2))) a2 t113 t114 _ ?side1 ?side2 A31.out).mono ?_); (case side1 => exact Sq.qd HR0 HB); (case side2 => exact HC0.out); rintro e w' ⟨rfl, ⟨nd, rfl⟩⟩; refine ⟨_, rfl, ?_⟩; (try (rw [drewN_self wr]; generalize hq_ : World.drewN wr _ = wr; have n0_ : Aside0 (Kd.R k54 54 wr w.heap.size (fun _ => True) u113001 x113001_2) := ⟨by rw [← hq_]; exact (kr HO_113001)⟩; have n1_ : Aside0 (wr.heap[gb108]? = some (.cells #[.int .i64 a1_0, .int .i64 a1_1, .int .i64 a1_2, .int .i64 a1_3, .int .i64 a1_4, .int .i64 a1_5, .int .i64 a1_6] 41 (0, 0))) := ⟨by rw [← hq_]; exact (kb BK108)⟩; have n2_ : Aside0 (wr.heap[gb109]? = some (.cells #[.slice none 0 0, .slice none 0 0, .slice none 0 0, .slice none 0 0, .slice none 0 0] 31 (0, 0))) := ⟨by rw [← hq_]; exact (kb BK109)⟩; have n3_ : Aside0 (wr.heap[gb112]? = some (.cells #[.slice none 0 0, u113001, .slice none 0 0, .slice none 0 0, .slice none 0 0] 31 (0, 0))) := ⟨by rw [← hq_]; exact (kb BK112)⟩; have n4_ : Aside0 (Below w.heap.size w wr) := ⟨by rw [← hq_]; exact (Sq.kl3 HB GE108 GE109 GE112)⟩; clear HO_113001 BK108 BK109 BK112 HB hq_; have HO_113001 := n0_; have BK108 := n1_; have BK109 := n2_; have BK112 := n3_; have HB := n4_; clear n0_ n1_ n2_ n3_ n4_))))
       replace HO_113001 := Aside0.mk (Kd.R_drew HO_113001.out)
       replace BK108 := Aside0.mk (blk_drew BK108.out)
       replace BK109 := Aside0.mk (blk_drew BK109.out)
       replace BK112 := Aside0.mk (blk_drew BK112.out)
       replace HB := Aside0.mk (below_drew1 HB.out)
       have p115 : 0 ≤ ((ji32) : Int) := of_decide_eq_true (by first | (with_reducible assumption) | assumption)
       have q115 : (ji32) < (l0.length : Int) := of_decide_eq_true (by first | (with_reducible assumption) | assumption)
       obtain ⟨ad115, e115, hx115_0⟩ := Kd.at_int HR0.out (ji32) p115 q115
       have hw115_0 := hx115_0
       cases e115
       replace hx115_0 := (HB.out.cell (World.block_lt_of_cell? w _ hx115_0)).trans hx115_0
       replace p115 := eq_true p115
       replace q115 := eq_true q115
       refine start_ (n := 15) (S := fun w' => w'.cell? ⟨gb112, 0, none⟩ = some (.slice none 0 0) ∧ w'.cell? ⟨gb112, 1, none⟩ = some (u113001) ∧ w'.cell? ⟨gb112, 2, none⟩ = some (.slice none 0 0) ∧ w'.cell? ⟨gb112, 3, none⟩ = some (.slice none 0 0) ∧ w'.cell? ⟨gb112, 4, none⟩ = some (.slice none 0 0) ∧ w'.cell? (ad115.add ((ji32)).toNat) = some (.int .u8 (rd l0 (ji32)))) (ds := [14]) (Sq.bm 15 0) (by kernel_rfl) rfl (by kernel_rfl) ⟨(blk_cell BK112.out 0).trans rfl, (blk_cell BK112.out 1).trans rfl, (blk_cell BK112.out 2).trans rfl, (blk_cell BK112.out 3).trans rfl, (blk_cell BK112.out 4).trans rfl, ((HB.out.cell (World.block_lt_of_cell? w _ hw115_0)).trans hw115_0)⟩ (fun hHeld => ?_); refine with_tabW longcaseref06_Decode.tab18 longcaseref06_Decode.bits18 (fun HT_ HW_ => ?_)
       generalize wr.drew = w39 at HO_113001 BK108 BK109 BK112 HB hx115_0 hHeld ⊢
       refine Sq.pv 0 100 1 HT_ ?_
       refine Sq.pv 2 102 5 HT_ ?_
       refine Sq.pv 3 103 13 HT_ ?_
       refine Sq.pv 4 104 29 HT_ ?_
       refine Sq.pv 5 105 61 HT_ ?_
       refine Sq.pv 6 106 125 HT_ ?_
       refine Sq.pv 7 107 253 HT_ ?_
       refine Sq.tv 1 101 255 HT_ HW_ hHeld ?_
       refine Sq.tv 8 108 511 HT_ HW_ hHeld ?_
       refine Sq.pv 9 109 1023 HT_ ?_
       refine Sq.pv 10 110 2047 HT_ ?_
       refine one_ (i := 11) (N := some 111) (bm 15 4095) rfl rfl (one_of HT_.out (by kernel_rfl)) (by decide) (fun K hK => ?_)
       refine value_ (w1 := ?_) (v := ?_) (by rfl) rfl ?_ ?_
       rotate_left 2
       ·
        go_simp
        constructor
        ·
         rfl
        rfl
       refine hK.out _ _ ⟨(blk_cell (blk_alloc BK112.out _) 0).trans rfl, (blk_cell (blk_alloc BK112.out _) 1).trans rfl, (blk_cell (blk_alloc BK112.out _) 2).trans rfl, (blk_cell (blk_alloc BK112.out _) 3).trans rfl, (blk_cell (blk_alloc BK112.out _) 4).trans rfl, (World.cell?_alloc_lt _ _ _ (World.block_lt_of_cell? _ _ (((HB.out.cell (World.block_lt_of_cell? w _ hw115_0)).trans hw115_0)))).trans (((HB.out.cell (World.block_lt_of_cell? w _ hw115_0)).trans hw115_0))⟩ (fun hHeld => ?_)
       clear hK K
       refine norm_ (a' := ?_) ?_ ?_
       rotate_left
       ·
        show Act.put _ (some 111) _ = _
        simp only [Act.put, List.setIfInBounds_toArray, List.set_cons_zero, List.set_cons_succ, i64_w, i32_w]
        rfl
       refine one_ (i := 12) (N := some 112) (bm 15 8191) rfl rfl (one_of HT_.out (by kernel_rfl)) (by decide) (fun K hK => ?_)
       refine Kd.R_append_step k54 (w0 := w) w.heap.size (by rfl) (.tmp 101) (.tmp 111) 23 54 (.agg #[(.int .i64 0), (.int .i64 0)]) 16 rfl Try.underlying23 info54 rfl (by decide) (by omega) u113001 x113001_2 (⟨t113, wrap64 (rd l0 (ji32))⟩ : S54) [.int .i64 t113, .int .i64 (wrap64 (rd l0 (ji32)))] (fun _ => True) (fun _ => False) rfl rfl ?aP (fun _ hk => hk.elim) ?aF ?aO ?aB ?aS ?aL ?_
       (case aP => exact k54_mkM _ _ _ (⟨t113, wrap64 (rd l0 (ji32))⟩ : S54))
       (case aB => exact (Sq.kl3 HB GE108 GE109 GE112))
       (case aF => exact (fun _ _ => trivial))
       (case aO => exact (kr HO_113001))
       (case aS => exact (below_size (Sq.kl3 HB GE108 GE109 GE112)))
       (case aL => have := LMc35.out; omega)
       intro v117 w40 ho hb hg hat
       rw [← Ny116.out] at ho
       replace BK108 := Aside0.mk (blk_grown (g := gb108) (o := .cells #[.int .i64 a1_0, .int .i64 a1_1, .int .i64 a1_2, .int .i64 a1_3, .int .i64 a1_4, .int .i64 a1_5, .int .i64 a1_6] 41 (0, 0)) (kb BK108) hg (Kd.R_ne HO_113001.out BK108.out (by decide)))
       replace BK109 := Aside0.mk (blk_grown (g := gb109) (o := .cells #[.slice none 0 0, .slice none 0 0, .slice none 0 0, .slice none 0 0, .slice none 0 0] 31 (0, 0)) (kb BK109) hg (Kd.R_ne HO_113001.out BK109.out (by decide)))
       replace BK112 := Aside0.mk (blk_grown (g := gb112) (o := .cells #[.slice none 0 0, u113001, .slice none 0 0, .slice none 0 0, .slice none 0 0] 31 (0, 0)) (kb BK112) hg (Kd.R_ne HO_113001.out BK112.out (by decide)))
       replace HB := Aside0.mk (hb)
       have HO118 := Aside0.mk (ho)
       clear HO_113001 ho hb hg hat
       obtain ⟨Ao41, co41, eo41⟩ := Kd.R_slice HO118.out
       (first | subst eo41 | (injection eo41 with f1_ f2_ f3_; have f4_ := f1_.symm; have f5_ := f3_.symm; clear f1_ f2_ f3_; subst f4_; subst f5_))
       refine hK.out _ _ ⟨(blk_cell BK112.out 0).trans rfl, (blk_cell BK112.out 1).trans rfl, (blk_cell BK112.out 2).trans rfl, (blk_cell BK112.out 3).trans rfl, (blk_cell BK112.out 4).trans rfl, ((HB.out.cell (World.block_lt_of_cell? w _ hw115_0)).trans hw115_0)⟩ (fun hHeld => ?_)
       clear hK K
       refine norm_ (a' := ?_) ?_ ?_
       rotate_left
       ·
        show Act.put _ (some 112) _ = _
        simp only [Act.put, List.setIfInBounds_toArray, List.set_cons_zero, List.set_cons_succ, i64_w, i32_w]
        rfl
       refine Sq.pv 13 113 16383 HT_ ?_
       refine last_ (i := 14) (N := none) #[true, true, true, true, true, true, true, true, true, true, true, true, true, true, true] rfl rfl (one_of HT_.out (by kernel_rfl)) (by decide) (fun K hK => ?_)
       have hs42 := kc BK112 1 rfl
       have hfs42 := blk_frozen BK112.out 1
       have hns42_0 := NB108_112.out
       have hns42_1 := NB109_112.out
       have hms42_0 := NB112_108.out
       have hms42_1 := NB112_109.out
       refine skip_ (w1 := ?_) (by rfl) rfl ?_ ?_
       rotate_left
       ·
        go_simp
        rfl
       refine hK.out _ _ ?_
       clear hK K
       refine done_ (done_of HT_.out (by kernel_rfl)) ?_
       try go_wp2
       go_roundg k2
       case measure => have := HJ4.out; have := HK2.out; omega
       case rel => exact ⟨(wrap64 (x17_2 + 1)), (y116), (.slice Ao41 y116.length co41), (by first | rfl | (simp; done) | (simp [*]; done)), H', ⟨by have := HJ4.out; have := HK2.out; omega⟩, ⟨by (with_reducible repeat (first | apply Kd.R_alloc | apply Kd.R_drewN | apply Kd.R_drew)); exact Kd.R_mono (Sq.rf1 HO118 BK112) (fun _ hk => trivial)⟩, ⟨by (with_reducible repeat (first | refine blk_drewN ?_ _ | refine blk_drew ?_ | refine blk_alloc ?_ _)); refine blk_far ?_ NB108_112.out _; exact Sq.kb BK108⟩, ⟨by (with_reducible repeat (first | refine blk_drewN ?_ _ | refine blk_drew ?_ | refine blk_alloc ?_ _)); refine blk_far ?_ NB109_112.out _; exact Sq.kb BK109⟩, ⟨by (with_reducible repeat (first | refine blk_drewN ?_ _ | refine blk_drew ?_ | refine blk_alloc ?_ _)); refine blk_put (cs := #[.slice none 0 0, u113001, .slice none 0 0, .slice none 0 0, .slice none 0 0]) ?_ 1 _ rfl; exact Sq.kb BK112⟩, ⟨Sq.kl3 HB GE108 GE109 GE112⟩⟩
     rw [if_neg c30] at H
     have c30b0 : decide (x17_2 < a1_4) = false := decide_eq_false c30
     clear c30
     have H' := Aside0.mk H
     clear H
     have hnb43 := NB108_109.out
     have hnc43 := NB109_108.out
     have hnb44 := NB108_112.out
     have hnc44 := NB112_108.out
     obtain ⟨hcz45_0, hcz45_1, hcz45_2, hcz45_3, hcz45_4, hcz45_5, hcz45_6⟩ := Sq.c7 BK108
     obtain ⟨hfz45_0, hfz45_1, hfz45_2, hfz45_3, hfz45_4, hfz45_5, hfz45_6⟩ := Sq.z7 BK108
     go_wp2
     go_loopg [20] k2 (fun kq v20 w' => ∃ (x20_3 : Int) (x113000_3 : List (S56)) (u113000 : Value), v20 = .int .i64 x20_3 ∧ Aside0 (longcaseref06_Decode.l1 kq l0 a2 (wrap64 ((wrap64 (a1_4 * a2)) + a1_4)) (wrap64 ((wrap64 ((wrap64 (a1_4 * a2)) + a1_4)) + (wrap64 (6 * a1_5)))) (wrap64 ((wrap64 ((wrap64 ((wrap64 (a1_4 * a2)) + a1_4)) + (wrap64 (6 * a1_5)))) + a1_6)) (wrap64 ((wrap64 ((wrap64 ((wrap64 ((wrap64 (a1_4 * a2)) + a1_4)) + (wrap64 (6 * a1_5)))) + a1_6)) + (wrap64 (a1_3 * (wrap64 (a2 + 4)))))) (wrap64 ((wrap64 ((wrap64 ((wrap64 ((wrap64 ((wrap64 (a1_4 * a2)) + a1_4)) + (wrap64 (6 * a1_5)))) + a1_6)) + (wrap64 (a1_3 * (wrap64 (a2 + 4)))))) + a1_2)) x20_3 a1_0 a1_1 a1_2 a1_3 a1_4 a1_5 a1_6 x113000_3 x113001_2 = some (r1, r2, r3, r4, r5, r6)) ∧ Aside0 (kq ≤ k2) ∧ Aside0 (Kd.R k56 56 w' w.heap.size (fun _ => True) u113000 x113000_3) ∧ Aside0 (Kd.R k54 54 w' w.heap.size (fun _ => True) u113001 x113001_2) ∧ Aside0 (w'.heap[gb108]? = some (.cells #[.int .i64 a1_0, .int .i64 a1_1, .int .i64 a1_2, .int .i64 a1_3, .int .i64 a1_4, .int .i64 a1_5, .int .i64 a1_6] 41 (0, 0))) ∧ Aside0 (w'.heap[gb109]? = some (.cells #[(.slice none 0 0), (.slice none 0 0), (.slice none 0 0), (.slice none 0 0), (.slice none 0 0)] 31 (0, 0))) ∧ Aside0 (w'.heap[gb112]? = some (.cells #[u113000, u113001, (.slice none 0 0), (.slice none 0 0), (.slice none 0 0)] 31 (0, 0))) ∧ Aside0 (Below w.heap.size w w'))
     case atStart => exact ⟨(0), (([] : List (S56))), (.slice none 0 0), (by first | rfl | (simp; done) | (simp [*]; done)), H', ⟨Nat.le_refl _⟩, ⟨by first | exact Kd.R_nil _ _ _ _ _ | exact Kd.N_nil _ _ _ _ _ | exact Kd.V_nil _ _ _ _ _ | exact Kd.Q_nil _ _ _ _ _ | exact Kd.S_nil _ _ _ _ _⟩, ⟨by (with_reducible repeat (first | apply Kd.R_alloc | apply Kd.R_drewN | apply Kd.R_drew)); exact HO_113001.out⟩, ⟨Sq.kb BK108⟩, ⟨Sq.kb BK109⟩, ⟨Sq.kb BK112⟩, ⟨Sq.kl3 HB GE108 GE109 GE112⟩⟩
     as_aux_lemma =>
      clear H'
      try clear c1
      try clear p1
      try clear q1
      try clear hx1
      try clear c2
      try clear p2
      try clear c3
      try clear c4
      try clear p6
      try clear c8
      try clear c11
      try clear p11
      try clear q11
      try clear hx11
      try clear c12
      try clear c12b0
      try clear c12b1
      try clear c13
      try clear c14
      try clear c17
      try clear c17b0
      try clear c18
      try clear c22
      try clear c26
      try clear c27
      try clear c30
      try clear c30b0
      try clear c33
      try clear c33b0
      try clear c34
      try clear c34b0
      try clear c35
      try clear c36
      try clear c37
      try clear c42
      try clear c43
      try clear c44
      try clear hcz15_0
      try clear hcz15_1
      try clear hcz15_2
      try clear hcz15_3
      try clear hcz15_4
      try clear hcz19_0
      try clear hcz19_1
      try clear hcz19_2
      try clear hcz19_3
      try clear hcz19_4
      try clear hcz19_5
      try clear hcz19_6
      try clear hcz21_0
      try clear hcz21_1
      try clear hcz21_2
      try clear hcz21_3
      try clear hcz21_4
      try clear hcz23_0
      try clear hcz23_1
      try clear hcz23_2
      try clear hcz23_3
      try clear hcz23_4
      try clear hcz23_5
      try clear hcz23_6
      try clear hcz28_0
      try clear hcz28_1
      try clear hcz28_2
      try clear hcz28_3
      try clear hcz28_4
      try clear hcz29_0
      try clear hcz29_1
      try clear hcz29_2
      try clear hcz29_3
      try clear hcz29_4
      try clear hcz29_5
      try clear hcz29_6
      try clear hcz38_0
      try clear hcz38_1
      try clear hcz38_2
      try clear hcz38_3
      try clear hcz38_4
      try clear hcz38_5
      try clear hcz38_6
      try clear hcz45_0
      try clear hcz45_1
      try clear hcz45_2
      try clear hcz45_3
      try clear hcz45_4
      try clear hcz45_5
      try clear hcz45_6
      try clear hcz9_0
      try clear hcz9_1
      try clear hcz9_2
      try clear hcz9_3
      try clear hcz9_4
      try clear hcz9_5
      try clear hcz9_6
      try clear hfz15_0
      try clear hfz15_1
      try clear hfz15_2
      try clear hfz15_3
      try clear hfz15_4
      try clear hfz19_0
      try clear hfz19_1
      try clear hfz19_2
      try clear hfz19_3
      try clear hfz19_4
      try clear hfz19_5
      try clear hfz19_6
      try clear hfz21_0
      try clear hfz21_1
      try clear hfz21_2
      try clear hfz21_3
      try clear hfz21_4
      try clear hfz23_0
      try clear hfz23_1
      try clear hfz23_2
      try clear hfz23_3
      try clear hfz23_4
      try clear hfz23_5
      try clear hfz23_6
      try clear hfz28_0
      try clear hfz28_1
      try clear hfz28_2
      try clear hfz28_3
      try clear hfz28_4
      try clear hfz29_0
      try clear hfz29_1
      try clear hfz29_2
      try clear hfz29_3
      try clear hfz29_4
      try clear hfz29_5
      try clear hfz29_6
      try clear hfz38_0
      try clear hfz38_1
      try clear hfz38_2
      try clear hfz38_3
      try clear hfz38_4
      try clear hfz38_5
      try clear hfz38_6
      try clear hfz45_0
      try clear hfz45_1
      try clear hfz45_2
      try clear hfz45_3
      try clear hfz45_4
      try clear hfz45_5
      try clear hfz45_6
      try clear hfz9_0
      try clear hfz9_1
      try clear hfz9_2
      try clear hfz9_3
      try clear hfz9_4
      try clear hfz9_5
      try clear hfz9_6
      try clear hx115_0
      try clear p115
      try clear p2
      try clear p6
      try clear q115
      obtain ⟨x20_3, x113000_3, u113000, rfl, HA, HK3, HO_113000, HO_113001, BK108, BK109, BK112, HB⟩ := hrel
      cases gk with
      | zero => exact absurd HA.out (by simp [longcaseref06_Decode.l1])
      | succ k3 =>
       have H := HA.out
       clear HA
       simp only [longcaseref06_Decode.l1] at H
       by_cases c46 : x20_3 < a1_5
       rotate_left
       ·
        rw [if_neg c46] at H
        have c46b0 : decide (x20_3 < a1_5) = false := decide_eq_false c46
        clear c46
        have H' := Aside0.mk H
        clear H
        have hnb96 := NB108_109.out
        have hnc96 := NB109_108.out
        have hnb97 := NB108_112.out
        have hnc97 := NB112_108.out
        obtain ⟨hcz98_0, hcz98_1, hcz98_2, hcz98_3, hcz98_4, hcz98_5, hcz98_6⟩ := Sq.c7 BK108
        obtain ⟨hfz98_0, hfz98_1, hfz98_2, hfz98_3, hfz98_4, hfz98_5, hfz98_6⟩ := Sq.z7 BK108
        go_wp2
        go_loopg [26] k3 (fun kq v26 w' => ∃ (x26_4 : Int) (x113002_4 : List (S67)) (u113002 : Value), v26 = .int .i64 x26_4 ∧ Aside0 (longcaseref06_Decode.l2 kq l0 a2 (wrap64 ((wrap64 ((wrap64 ((wrap64 (a1_4 * a2)) + a1_4)) + (wrap64 (6 * a1_5)))) + a1_6)) (wrap64 ((wrap64 ((wrap64 ((wrap64 ((wrap64 (a1_4 * a2)) + a1_4)) + (wrap64 (6 * a1_5)))) + a1_6)) + (wrap64 (a1_3 * (wrap64 (a2 + 4)))))) (wrap64 ((wrap64 ((wrap64 ((wrap64 ((wrap64 ((wrap64 (a1_4 * a2)) + a1_4)) + (wrap64 (6 * a1_5)))) + a1_6)) + (wrap64 (a1_3 * (wrap64 (a2 + 4)))))) + a1_2)) x26_4 a1_0 a1_1 a1_2 a1_3 a1_4 a1_5 a1_6 x113000_3 x113001_2 x113002_4 = some (r1, r2, r3, r4, r5, r6)) ∧ Aside0 (kq ≤ k3) ∧ Aside0 (Kd.R k56 56 w' w.heap.size (fun _ => True) u113000 x113000_3) ∧ Aside0 (Kd.R k54 54 w' w.heap.size (fun _ => True) u113001 x113001_2) ∧ Aside0 (Kd.R k67 67 w' w.heap.size (fun _ => True) u113002 x113002_4) ∧ Aside0 (w'.heap[gb108]? = some (.cells #[.int .i64 a1_0, .int .i64 a1_1, .int .i64 a1_2, .int .i64 a1_3, .int .i64 a1_4, .int .i64 a1_5, .int .i64 a1_6] 41 (0, 0))) ∧ Aside0 (w'.heap[gb109]? = some (.cells #[(.slice none 0 0), (.slice none 0 0), (.slice none 0 0), (.slice none 0 0), (.slice none 0 0)] 31 (0, 0))) ∧ Aside0 (w'.heap[gb112]? = some (.cells #[u113000, u113001, u113002, (.slice none 0 0), (.slice none 0 0)] 31 (0, 0))) ∧ Aside0 (Below w.heap.size w w'))
        case atStart => exact ⟨(0), (([] : List (S67))), (.slice none 0 0), (by first | rfl | (simp; done) | (simp [*]; done)), H', ⟨Nat.le_refl _⟩, ⟨by (with_reducible repeat (first | apply Kd.R_alloc | apply Kd.R_drewN | apply Kd.R_drew)); exact HO_113000.out⟩, ⟨by (with_reducible repeat (first | apply Kd.R_alloc | apply Kd.R_drewN | apply Kd.R_drew)); exact HO_113001.out⟩, ⟨by first | exact Kd.R_nil _ _ _ _ _ | exact Kd.N_nil _ _ _ _ _ | exact Kd.V_nil _ _ _ _ _ | exact Kd.Q_nil _ _ _ _ _ | exact Kd.S_nil _ _ _ _ _⟩, ⟨Sq.kb BK108⟩, ⟨Sq.kb BK109⟩, ⟨Sq.kb BK112⟩, ⟨Sq.kl3 HB GE108 GE109 GE112⟩⟩
        as_aux_lemma =>
         clear H'
         try clear p1
         try clear q1
         try clear hx1
         try clear p2
         try clear c4
         try clear c5
         try clear p6
         try clear c7
         try clear c8
         try clear c9
         try clear p12
         try clear q12
         try clear hx12
         try clear c44
         try clear c45
         try clear c46
         try clear c46b0
         try clear c49
         try clear c50
         try clear c52
         try clear c53
         try clear c56
         try clear c57
         try clear p64
         try clear c76
         try clear c77
         try clear c88
         try clear c89
         try clear c94
         try clear c96
         try clear c97
         try clear hcz90_0
         try clear hcz90_1
         try clear hcz90_2
         try clear hcz90_3
         try clear hcz90_4
         try clear hcz90_5
         try clear hcz90_6
         try clear hcz95_0
         try clear hcz95_1
         try clear hcz95_2
         try clear hcz95_3
         try clear hcz95_4
         try clear hcz98_0
         try clear hcz98_1
         try clear hcz98_2
         try clear hcz98_3
         try clear hcz98_4
         try clear hcz98_5
         try clear hcz98_6
         try clear hfz90_0
         try clear hfz90_1
         try clear hfz90_2
         try clear hfz90_3
         try clear hfz90_4
         try clear hfz90_5
         try clear hfz90_6
         try clear hfz95_0
         try clear hfz95_1
         try clear hfz95_2
         try clear hfz95_3
         try clear hfz95_4
         try clear hfz98_0
         try clear hfz98_1
         try clear hfz98_2
         try clear hfz98_3
         try clear hfz98_4
         try clear hfz98_5
         try clear hfz98_6
         try clear hx122_0
         try clear hx125_0
         try clear hx126_0
         try clear p122
         try clear p125
         try clear p126
         try clear q122
         try clear q125
         try clear q126
         obtain ⟨x26_4, x113002_4, u113002, rfl, HA, HK4, HO_113000, HO_113001, HO_113002, BK108, BK109, BK112, HB⟩ := hrel
         cases gk with
         | zero => exact absurd HA.out (by simp [longcaseref06_Decode.l2])
         | succ k4 =>
          have H := HA.out
          clear HA
          simp only [longcaseref06_Decode.l2] at H
          by_cases c99 : x26_4 < a1_3
          ·
           rw [if_pos c99] at H
           have c99b0 : decide (x26_4 < a1_3) = true := decide_eq_true c99
           clear c99
           replace H := Option.bind_eq_some_iff.mp H
           obtain ⟨⟨t131, t132⟩, A1000, H⟩ := H
           replace H : ((longcaseref04_Int.f k4 l0 (wrap64 ((wrap64 ((wrap64 ((wrap64 ((wrap64 ((wrap64 (a1_4 * a2)) + a1_4)) + (wrap64 (6 * a1_5)))) + a1_6)) + (wrap64 (x26_4 * (wrap64 (a2 + 4)))))) + a2)) 4).bind fun bt133 => (if x113002_4.length < 8796093022208 then (longcaseref06_Decode.l2 k4 l0 a2 (wrap64 ((wrap64 ((wrap64 ((wrap64 (a1_4 * a2)) + a1_4)) + (wrap64 (6 * a1_5)))) + a1_6)) (wrap64 ((wrap64 ((wrap64 ((wrap64 ((wrap64 (a1_4 * a2)) + a1_4)) + (wrap64 (6 * a1_5)))) + a1_6)) + (wrap64 (a1_3 * (wrap64 (a2 + 4)))))) (wrap64 ((wrap64 ((wrap64 ((wrap64 ((wrap64 ((wrap64 (a1_4 * a2)) + a1_4)) + (wrap64 (6 * a1_5)))) + a1_6)) + (wrap64 (a1_3 * (wrap64 (a2 + 4)))))) + a1_2)) (wrap64 (x26_4 + 1)) a1_0 a1_1 a1_2 a1_3 a1_4 a1_5 a1_6 x113000_3 x113001_2 (x113002_4 ++ [(⟨t131, bt133.1⟩ : S67)])) else (none))) = some (r1, r2, r3, r4, r5, r6) := H
           have A100 := Aside0.mk A1000
           clear A1000
           replace H := Option.bind_eq_some_iff.mp H
           obtain ⟨⟨t133, t134⟩, A1010, H⟩ := H
           replace H : (if x113002_4.length < 8796093022208 then (longcaseref06_Decode.l2 k4 l0 a2 (wrap64 ((wrap64 ((wrap64 ((wrap64 (a1_4 * a2)) + a1_4)) + (wrap64 (6 * a1_5)))) + a1_6)) (wrap64 ((wrap64 ((wrap64 ((wrap64 ((wrap64 (a1_4 * a2)) + a1_4)) + (wrap64 (6 * a1_5)))) + a1_6)) + (wrap64 (a1_3 * (wrap64 (a2 + 4)))))) (wrap64 ((wrap64 ((wrap64 ((wrap64 ((wrap64 ((wrap64 (a1_4 * a2)) + a1_4)) + (wrap64 (6 * a1_5)))) + a1_6)) + (wrap64 (a1_3 * (wrap64 (a2 + 4)))))) + a1_2)) (wrap64 (x26_4 + 1)) a1_0 a1_1 a1_2 a1_3 a1_4 a1_5 a1_6 x113000_3 x113001_2 (x113002_4 ++ [(⟨t131, t133⟩ : S67)])) else (none)) = some (r1, r2, r3, r4, r5, r6) := H
           have A101 := Aside0.mk A1010
           clear A1010
           by_cases c102 : x113002_4.length < 8796093022208
           rotate_left
           ·
            rw [if_neg c102] at H
            exact absurd H (by simp)
           rw [if_pos c102] at H
           have LMc102 := Aside0.mk c102
           clear c102
           obtain ⟨y135, hy135⟩ : ∃ y_ : List (S67), y_ = (x113002_4 ++ [(⟨t131, t133⟩ : S67)]) := ⟨_, rfl⟩
           replace H : (longcaseref06_Decode.l2 k4 l0 a2 (wrap64 ((wrap64 ((wrap64 ((wrap64 (a1_4 * a2)) + a1_4)) + (wrap64 (6 * a1_5)))) + a1_6)) (wrap64 ((wrap64 ((wrap64 ((wrap64 ((wrap64 (a1_4 * a2)) + a1_4)) + (wrap64 (6 * a1_5)))) + a1_6)) + (wrap64 (a1_3 * (wrap64 (a2 + 4)))))) (wrap64 ((wrap64 ((wrap64 ((wrap64 ((wrap64 ((wrap64 (a1_4 * a2)) + a1_4)) + (wrap64 (6 * a1_5)))) + a1_6)) + (wrap64 (a1_3 * (wrap64 (a2 + 4)))))) + a1_2)) (wrap64 (x26_4 + 1)) a1_0 a1_1 a1_2 a1_3 a1_4 a1_5 a1_6 x113000_3 x113001_2 y135) = some (r1, r2, r3, r4, r5, r6) := by first | (rw [hy135]; with_reducible exact H) | (have H2_ := (Option.bind_some _ _).symm.trans H; rw [hy135]; with_reducible exact H2_) | (have H2_ := (Option.bind_some _ _).symm.trans H; with_reducible exact H2_) | with_reducible exact H | (rw [hy135]; exact H) | exact H
           have Ny135 := Aside0.mk hy135
           clear hy135
           have H' := Aside0.mk H
           clear H
           have hnb103 := NB108_109.out
           have hnc103 := NB109_108.out
           have hnb104 := NB108_112.out
           have hnc104 := NB112_108.out
           obtain ⟨hcz105_0, hcz105_1, hcz105_2, hcz105_3, hcz105_4, hcz105_5, hcz105_6⟩ := Sq.c7 BK108
           obtain ⟨hfz105_0, hfz105_1, hfz105_2, hfz105_3, hfz105_4, hfz105_5, hfz105_6⟩ := Sq.z7 BK108
           go_wp2_with (first | ((with_reducible refine gate_callee (f := 44) rfl ?_); refine goesL_ (some 197) rfl rfl Try.func44 (by kernel_rfl) rfl #[.slice A0 l0.length c0, .int .i64 (wrap64 ((wrap64 ((wrap64 ((wrap64 ((wrap64 (a1_4 * a2)) + a1_4)) + (wrap64 (6 * a1_5)))) + a1_6)) + (wrap64 (x26_4 * (wrap64 (a2 + 4)))))), .int .i64 a2] rfl (by (try simp only [List.map_toArray, List.map_cons, List.map_nil]); first | done | rfl | (simp only [List.length_drop, List.length_take]; rfl)) ?_; (with_reducible refine (longcaseref04_Int.calls k4 _ _ l0 (wrap64 ((wrap64 ((wrap64 ((wrap64 ((wrap64 (a1_4 * a2)) + a1_4)) + (wrap64 (6 * a1_5)))) + a1_6)) + (wrap64 (x26_4 * (wrap64 (a2 + 4)))))) a2 t131 t132 _ ?side1 ?side2 A100.out).mono ?_); (case side1 => exact Sq.qd HR0 HB); (case side2 => exact HC0.out); rintro e w' ⟨rfl, ⟨nd, rfl⟩⟩; refine ⟨_, rfl, ?_⟩; (try (rw [drewN_self wr]; generalize hq_ : World.drewN wr _ = wr; have n0_ : Aside0 (Kd.R k56 56 wr w.heap.size (fun _ => True) u113000 x113000_3) := ⟨by rw [← hq_]; exact (kr HO_113000)⟩; have n1_ : Aside0 (Kd.R k54 54 wr w.heap.size (fun _ => True) u113001 x113001_2) := ⟨by rw [← hq_]; exact (kr HO_113001)⟩; have n2_ : Aside0 (Kd.R k67 67 wr w.heap.size (fun _ => True) u113002 x113002_4) := ⟨by rw [← hq_]; exact (kr HO_113002)⟩; have n3_ : Aside0 (wr.heap[gb108]? = some (.cells #[.int .i64 a1_0, .int .i64 a1_1, .int .i64 a1_2, .int .i64 a1_3, .int .i64 a1_4, .int .i64 a1_5, .int .i64 a1_6] 41 (0, 0))) := ⟨by rw [← hq_]; exact (kb BK108)⟩; have n4_ : Aside0 (wr.heap[gb109]? = some (.cells #[.slice none 0 0, .slice none 0 0, .slice none 0 0, .slice none 0 0, .slice none 0 0] 31 (0, 0))) := ⟨by rw [← hq_]; exact (kb BK109)⟩; have n5_ : Aside0 (wr.heap[gb112]? = some (.cells #[u113000, u113001, u113002, .slice none 0 0, .slice none 0 0] 31 (0, 0))) := ⟨by rw [← hq_]; exact (kb BK112)⟩; have n6_ : Aside0 (Below w.heap.size w wr) := ⟨by rw [← hq_]; exact (Sq.kl3 HB GE108 GE109 GE112)⟩; clear HO_113000 HO_113001 HO_113002 BK108 BK109 BK112 HB hq_; have HO_113000 := n0_; have HO_113001 := n1_; have HO_113002 := n2_; have BK108 := n3_; have BK109 := n4_; have BK112 := n5_; have HB := n6_; clear n0_ n1_ n2_ n3_ n4_ n5_ n6_))) | ((with_reducible refine gate_callee (f := 44) rfl ?_); refine goesL_ (some 205) rfl rfl Try.func44 (by kernel_rfl) rfl #[.slice A0 l0.length c0, .int .i64 (wrap64 ((wrap64 ((wrap64 ((wrap64 ((wrap64 ((wrap64 (a1_4 * a2)) + a1_4)) + (wrap64 (6 * a1_5)))) + a1_6)) + (wrap64 (x26_4 * (wrap64 (a2 + 4)))))) + a2)), .int .i64 4] rfl (by (try simp only [List.map_toArray, List.map_cons, List.map_nil]); first | done | rfl | (simp only [List.length_drop, List.length_take]; rfl)) ?_; (with_reducible refine (longcaseref04_Int.calls k4 _ _ l0 (wrap64 ((wrap64 ((wrap64 ((wrap64 ((wrap64 ((wrap64 (a1_4 * a2)) + a1_4)) + (wrap64 (6 * a1_5)))) + a1_6)) + (wrap64 (x26_4 * (wrap64 (a2 + 4)))))) + a2)) 4 t133 t134 _ ?side1 ?side2 A101.out).mono ?_); (case side1 => exact Sq.qd HR0 HB); (case side2 => exact HC0.out); rintro e w' ⟨rfl, ⟨nd, rfl⟩⟩; refine ⟨_, rfl, ?_⟩; (try (rw [drewN_self wr]; generalize hq_ : World.drewN wr _ = wr; have n0_ : Aside0 (Kd.R k56 56 wr w.heap.size (fun _ => True) u113000 x113000_3) := ⟨by rw [← hq_]; exact (kr HO_113000)⟩; have n1_ : Aside0 (Kd.R k54 54 wr w.heap.size (fun _ => True) u113001 x113001_2) := ⟨by rw [← hq_]; exact (kr HO_113001)⟩; have n2_ : Aside0 (Kd.R k67 67 wr w.heap.size (fun _ => True) u113002 x113002_4) := ⟨by rw [← hq_]; exact (kr HO_113002)⟩; have n3_ : Aside0 (wr.heap[gb108]? = some (.cells #[.int .i64 a1_0, .int .i64 a1_1, .int .i64 a1_2, .int .i64 a1_3, .int .i64 a1_4, .int .i64 a1_5, .int .i64 a1_6] 41 (0, 0))) := ⟨by rw [← hq_]; exact (kb BK108)⟩; have n4_ : Aside0 (wr.heap[gb109]? = some (.cells #[.slice none 0 0, .slice none 0 0, .slice none 0 0, .slice none 0 0, .slice none 0 0] 31 (0, 0))) := ⟨by rw [← hq_]; exact (kb BK109)⟩; have n5_ : Aside0 (wr.heap[gb112]? = some (.cells #[u113000, u113001, u113002, .slice none 0 0, .slice none 0 0] 31 (0, 0))) := ⟨by rw [← hq_]; exact (kb BK112)⟩; have n6_ : Aside0 (Below w.heap.size w wr) := ⟨by rw [← hq_]; exact (Sq.kl3 HB GE108 GE109 GE112)⟩; clear HO_113000 HO_113001 HO_113002 BK108 BK109 BK112 HB hq_; have HO_113000 := n0_; have HO_113001 := n1_; have HO_113002 := n2_; have BK108 := n3_; have BK109 := n4_; have BK112 := n5_; have HB := n6_; clear n0_ n1_ n2_ n3_ n4_ n5_ n6_)); have hnb106 := NB112_109.out; have hnc106 := NB109_112.out; obtain ⟨hcz107_0, hcz107_1, hcz107_2, hcz107_3, hcz107_4⟩ := Sq.c5 BK112; obtain ⟨hfz107_0, hfz107_1, hfz107_2, hfz107_3, hfz107_4⟩ := Sq.z5 BK112) | ((with_reducible refine gate_builtin (b := .append) (xs := #[.tmp 209, .tmp 213]) rfl ?_); at_builtin; refine Kd.R_append k67 (w0 := w) w.heap.size rfl (.tmp 209) (.tmp 213) 24 67 (.agg #[(.int .i64 0), (.int .i64 0)]) 16 rfl Try.underlying24 info67 rfl (by decide) (by omega) u113002 x113002_4 (⟨t131, t133⟩ : S67) [.int .i64 t131, .int .i64 t133] (fun _ => True) (fun _ => False) rfl rfl ?aP (fun _ hk => hk.elim) ?aF ?aO ?aB ?aS ?aL ?_; (case aP => exact k67_mkM _ _ _ (⟨t131, t133⟩ : S67)); (case aB => exact (Sq.kl3 HB GE108 GE109 GE112)); (case aF => exact (fun _ _ => trivial)); (case aO => exact (kr HO_113002)); (case aS => exact (below_size (Sq.kl3 HB GE108 GE109 GE112))); (case aL => have := LMc102.out; omega); intro v136 w108 ho hb hg hat; rw [← Ny135.out] at ho; replace HO_113000 := Aside0.mk (Kd.R_over' (kr HO_113000) (Kd.R_typed (kr HO_113002)) (by decide) hg); replace HO_113001 := Aside0.mk (Kd.R_over' (kr HO_113001) (Kd.R_typed (kr HO_113002)) (by decide) hg); replace BK108 := Aside0.mk (blk_grown (g := gb108) (o := .cells #[.int .i64 a1_0, .int .i64 a1_1, .int .i64 a1_2, .int .i64 a1_3, .int .i64 a1_4, .int .i64 a1_5, .int .i64 a1_6] 41 (0, 0)) (kb BK108) hg (Kd.R_ne HO_113002.out BK108.out (by decide))); replace BK109 := Aside0.mk (blk_grown (g := gb109) (o := .cells #[.slice none 0 0, .slice none 0 0, .slice none 0 0, .slice none 0 0, .slice none 0 0] 31 (0, 0)) (kb BK109) hg (Kd.R_ne HO_113002.out BK109.out (by decide))); replace BK112 := Aside0.mk (blk_grown (g := gb112) (o := .cells #[u113000, u113001, u113002, .slice none 0 0, .slice none 0 0] 31 (0, 0)) (kb BK112) hg (Kd.R_ne HO_113002.out BK112.out (by decide))); replace HB := Aside0.mk (hb); have HO137 := Aside0.mk (ho); clear HO_113002; clear ho hb hg hat; obtain ⟨Ao109, co109, eo109⟩ := Kd.R_slice HO137.out; subst eo109; obtain ⟨hcz110_0, hcz110_1, hcz110_2, hcz110_3, hcz110_4⟩ := Sq.c5 BK112; obtain ⟨hfz110_0, hfz110_1, hfz110_2, hfz110_3, hfz110_4⟩ := Sq.z5 BK112))
           go_roundg k4
           case measure => have := HJ4.out; have := HK2.out; have := HK3.out; have := HK4.out; omega
           case rel => exact ⟨(wrap64 (x26_4 + 1)), (y135), (.slice Ao109 y135.length co109), (by first | rfl | (simp; done) | (simp [*]; done)), H', ⟨by have := HJ4.out; have := HK2.out; have := HK3.out; have := HK4.out; omega⟩, ⟨by (with_reducible repeat (first | apply Kd.R_alloc | apply Kd.R_drewN | apply Kd.R_drew)); exact Kd.R_mono (Sq.rf1 HO_113000 BK112) (fun _ hk => trivial)⟩, ⟨by (with_reducible repeat (first | apply Kd.R_alloc | apply Kd.R_drewN | apply Kd.R_drew)); exact Kd.R_mono (Sq.rf1 HO_113001 BK112) (fun _ hk => trivial)⟩, ⟨by (with_reducible repeat (first | apply Kd.R_alloc | apply Kd.R_drewN | apply Kd.R_drew)); exact Kd.R_mono (Sq.rf1 HO137 BK112) (fun _ hk => trivial)⟩, ⟨by (with_reducible repeat (first | refine blk_drewN ?_ _ | refine blk_drew ?_ | refine blk_alloc ?_ _)); refine blk_far ?_ NB108_112.out _; exact Sq.kb BK108⟩, ⟨by (with_reducible repeat (first | refine blk_drewN ?_ _ | refine blk_drew ?_ | refine blk_alloc ?_ _)); refine blk_far ?_ NB109_112.out _; exact Sq.kb BK109⟩, ⟨by (with_reducible repeat (first | refine blk_drewN ?_ _ | refine blk_drew ?_ | refine blk_alloc ?_ _)); refine blk_put (cs := #[u113000, u113001, u113002, .slice none 0 0, .slice none 0 0]) ?_ 2 _ rfl; exact Sq.kb BK112⟩, ⟨Sq.kl3 HB GE108 GE109 GE112⟩⟩
          rw [if_neg c99] at H
          have c99b0 : decide (x26_4 < a1_3) = false := decide_eq_false c99
          clear c99
          have H' := Aside0.mk H
          clear H
          have hnb111 := NB108_109.out
          have hnc111 := NB109_108.out
          have hnb112 := NB108_112.out
          have hnc112 := NB112_108.out
          obtain ⟨hcz113_0, hcz113_1, hcz113_2, hcz113_3, hcz113_4, hcz113_5, hcz113_6⟩ := Sq.c7 BK108
          obtain ⟨hfz113_0, hfz113_1, hfz113_2, hfz113_3, hfz113_4, hfz113_5, hfz113_6⟩ := Sq.z7 BK108
          go_wp2
          go_loopg [32] k4 (fun kq v32 w' => ∃ (x32_5 : Int) (x113003_5 : List Bool) (x113004_5 : List Bool) (u113003 : Value) (u113004 : Value), v32 = .int .i64 x32_5 ∧ Aside0 (longcaseref06_Decode.l3 kq l0 a2 (wrap64 ((wrap64 ((wrap64 ((wrap64 ((wrap64 (a1_4 * a2)) + a1_4)) + (wrap64 (6 * a1_5)))) + a1_6)) + (wrap64 (a1_3 * (wrap64 (a2 + 4)))))) (wrap64 ((wrap64 ((wrap64 ((wrap64 ((wrap64 ((wrap64 (a1_4 * a2)) + a1_4)) + (wrap64 (6 * a1_5)))) + a1_6)) + (wrap64 (a1_3 * (wrap64 (a2 + 4)))))) + a1_2)) x32_5 a1_0 a1_1 a1_2 a1_3 a1_4 a1_5 a1_6 x113000_3 x113001_2 x113002_4 x113003_5 x113004_5 = some (r1, r2, r3, r4, r5, r6)) ∧ Aside0 (kq ≤ k4) ∧ Aside0 (Kd.R k56 56 w' w.heap.size (fun _ => True) u113000 x113000_3) ∧ Aside0 (Kd.R k54 54 w' w.heap.size (fun _ => True) u113001 x113001_2) ∧ Aside0 (Kd.R k67 67 w' w.heap.size (fun _ => True) u113002 x113002_4) ∧ Aside0 (Kd.R Kd.bool 4 w' w.heap.size (fun k_ => some k_ ≠ (u113004 : Value).ownBlock) u113003 x113003_5) ∧ Aside0 (Kd.R Kd.bool 4 w' w.heap.size (fun k_ => some k_ ≠ (u113003 : Value).ownBlock) u113004 x113004_5) ∧ Aside0 (w'.heap[gb108]? = some (.cells #[.int .i64 a1_0, .int .i64 a1_1, .int .i64 a1_2, .int .i64 a1_3, .int .i64 a1_4, .int .i64 a1_5, .int .i64 a1_6] 41 (0, 0))) ∧ Aside0 (w'.heap[gb109]? = some (.cells #[(.slice none 0 0), (.slice none 0 0), (.slice none 0 0), (.slice none 0 0), (.slice none 0 0)] 31 (0, 0))) ∧ Aside0 (w'.heap[gb112]? = some (.cells #[u113000, u113001, u113002, u113003, u113004] 31 (0, 0))) ∧ Aside0 (Below w.heap.size w w'))
          case atStart => exact ⟨(0), (([] : List Bool)), (([] : List Bool)), (.slice none 0 0), (.slice none 0 0), (by first | rfl | (simp; done) | (simp [*]; done)), H', ⟨Nat.le_refl _⟩, ⟨by (with_reducible repeat (first | apply Kd.R_alloc | apply Kd.R_drewN | apply Kd.R_drew)); exact HO_113000.out⟩, ⟨by (with_reducible repeat (first | apply Kd.R_alloc | apply Kd.R_drewN | apply Kd.R_drew)); exact HO_113001.out⟩, ⟨by (with_reducible repeat (first | apply Kd.R_alloc | apply Kd.R_drewN | apply Kd.R_drew)); exact HO_113002.out⟩, ⟨by first | exact Kd.R_nil _ _ _ _ _ | exact Kd.N_nil _ _ _ _ _ | exact Kd.V_nil _ _ _ _ _ | exact Kd.Q_nil _ _ _ _ _ | exact Kd.S_nil _ _ _ _ _⟩, ⟨by first | exact Kd.R_nil _ _ _ _ _ | exact Kd.N_nil _ _ _ _ _ | exact Kd.V_nil _ _ _ _ _ | exact Kd.Q_nil _ _ _ _ _ | exact Kd.S_nil _ _ _ _ _⟩, ⟨Sq.kb BK108⟩, ⟨Sq.kb BK109⟩, ⟨Sq.kb BK112⟩, ⟨Sq.kl3 HB GE108 GE109 GE112⟩⟩
          as_aux_lemma =>
           clear H'
           try clear c1
           try clear p1
           try clear q1
           try clear hx1
           try clear p2
           try clear c4
           try clear c5
           try clear p6
           try clear c7
           try clear c8
           try clear c9
           try clear c10
           try clear c11
           try clear p12
           try clear q12
           try clear hx12
           try clear c44
           try clear c45
           try clear c46
           try clear c46b0
           try clear c49
           try clear c50
           try clear c52
           try clear c53
           try clear c56
           try clear c57
           try clear p64
           try clear c76
           try clear c77
           try clear c88
           try clear c89
           try clear c94
           try clear c96
           try clear c97
           try clear c99
           try clear c99b0
           try clear c102
           try clear c103
           try clear c104
           try clear c106
           try clear c111
           try clear c112
           try clear hcz105_0
           try clear hcz105_1
           try clear hcz105_2
           try clear hcz105_3
           try clear hcz105_4
           try clear hcz105_5
           try clear hcz105_6
           try clear hcz107_0
           try clear hcz107_1
           try clear hcz107_2
           try clear hcz107_3
           try clear hcz107_4
           try clear hcz110_0
           try clear hcz110_1
           try clear hcz110_2
           try clear hcz110_3
           try clear hcz110_4
           try clear hcz113_0
           try clear hcz113_1
           try clear hcz113_2
           try clear hcz113_3
           try clear hcz113_4
           try clear hcz113_5
           try clear hcz113_6
           try clear hcz90_0
           try clear hcz90_1
           try clear hcz90_2
           try clear hcz90_3
           try clear hcz90_4
           try clear hcz90_5
           try clear hcz90_6
           try clear hcz95_0
           try clear hcz95_1
           try clear hcz95_2
           try clear hcz95_3
           try clear hcz95_4
           try clear hcz98_0
           try clear hcz98_1
           try clear hcz98_2
           try clear hcz98_3
           try clear hcz98_4
           try clear hcz98_5
           try clear hcz98_6
           try clear hfz105_0
           try clear hfz105_1
           try clear hfz105_2
           try clear hfz105_3
           try clear hfz105_4
           try clear hfz105_5
           try clear hfz105_6
           try clear hfz107_0
           try clear hfz107_1
           try clear hfz107_2
           try clear hfz107_3
           try clear hfz107_4
           try clear hfz110_0
           try clear hfz110_1
           try clear hfz110_2
           try clear hfz110_3
           try clear hfz110_4
           try clear hfz113_0
           try clear hfz113_1
           try clear hfz113_2
           try clear hfz113_3
           try clear hfz113_4
           try clear hfz113_5
           try clear hfz113_6
           try clear hfz90_0
           try clear hfz90_1
           try clear hfz90_2
           try clear hfz90_3
           try clear hfz90_4
           try clear hfz90_5
           try clear hfz90_6
           try clear hfz95_0
           try clear hfz95_1
           try clear hfz95_2
           try clear hfz95_3
           try clear hfz95_4
           try clear hfz98_0
           try clear hfz98_1
           try clear hfz98_2
           try clear hfz98_3
           try clear hfz98_4
           try clear hfz98_5
           try clear hfz98_6
           try clear hx122_0
           try clear hx125_0
           try clear hx126_0
           try clear p1
           try clear p12
           try clear p122
           try clear p125
           try clear p126
           try clear p2
           try clear p6
           try clear p64
           try clear q1
           try clear q12
           try clear q122
           try clear q125
           try clear q126
           obtain ⟨x32_5, x113003_5, x113004_5, u113003, u113004, rfl, HA, HK5, HO_113000, HO_113001, HO_113002, HO_113003, HO_113004, BK108, BK109, BK112, HB⟩ := hrel
           cases gk with
           | zero => exact absurd HA.out (by simp [longcaseref06_Decode.l3])
           | succ k5 =>
            have H := HA.out
            clear HA
            simp only [longcaseref06_Decode.l3] at H
            by_cases c114 : x32_5 < (wrap64 (a1_2 + a1_1))
            rotate_left
            ·
             rw [if_neg c114] at H
             have c114b0 : decide (x32_5 < (wrap64 (a1_2 + a1_1))) = false := decide_eq_false c114
             clear c114
             replace H := Option.bind_eq_some_iff.mp H
             obtain ⟨t138, A1440, H⟩ := H
             replace H : (if t138 = true then (some (x113000_3, x113001_2, x113002_4, x113003_5, x113004_5, 0)) else (some (([] : List (S56)), ([] : List (S54)), ([] : List (S67)), ([] : List Bool), ([] : List Bool), 4))) = some (r1, r2, r3, r4, r5, r6) := H
             have A144 := Aside0.mk A1440
             clear A1440
             by_cases c145 : t138 = true
             rotate_left
             ·
              replace c145 := Bool.eq_false_iff.mpr c145
              subst c145
              rw [if_neg (show ¬ (false = true) by decide)] at H
              simp only [Option.some.injEq, Prod.mk.injEq] at H
              obtain ⟨rfl, rfl, rfl, rfl, rfl, rfl⟩ := H
              have hnb159 := NB108_109.out
              have hnc159 := NB109_108.out
              have hnb160 := NB108_112.out
              have hnc160 := NB112_108.out
              obtain ⟨hcz161_0, hcz161_1, hcz161_2, hcz161_3, hcz161_4, hcz161_5, hcz161_6⟩ := Sq.c7 BK108
              obtain ⟨hfz161_0, hfz161_1, hfz161_2, hfz161_3, hfz161_4, hfz161_5, hfz161_6⟩ := Sq.z7 BK108
              have hnb162 := NB112_109.out
              have hnc162 := NB109_112.out
              obtain ⟨hcz163_0, hcz163_1, hcz163_2, hcz163_3, hcz163_4⟩ := Sq.c5 BK112
              obtain ⟨hfz163_0, hfz163_1, hfz163_2, hfz163_3, hfz163_4⟩ := Sq.z5 BK112
              obtain ⟨Ao164, co164, eo164⟩ := Kd.R_slice HO_113000.out
              subst eo164
              obtain ⟨Ao165, co165, eo165⟩ := Kd.R_slice HO_113001.out
              subst eo165
              obtain ⟨Ao166, co166, eo166⟩ := Kd.R_slice HO_113002.out
              subst eo166
              obtain ⟨Ao167, co167, eo167⟩ := Kd.R_slice HO_113003.out
              subst eo167
              obtain ⟨Ao168, co168, eo168⟩ := Kd.R_slice HO_113004.out
              subst eo168
              go_wp2_with (first | ((with_reducible refine gate_callee (f := 13) rfl ?_); refine goesL_ (some 268) rfl rfl Try.func13 (by kernel_rfl) rfl #[.agg #[.slice Ao164 x113000_3.length co164, .slice Ao165 x113001_2.length co165, .slice Ao166 x113002_4.length co166, .slice Ao167 x113003_5.length co167, .slice Ao168 x113004_5.length co168], .int .i64 a2, .int .i64 a1_0] rfl (by (try simp only [List.map_toArray, List.map_cons, List.map_nil]); first | done | rfl | (simp only [List.length_drop, List.length_take]; rfl)) ?_; (with_reducible refine (longcaseref06_Right.calls _ _ x113000_3 _ _ x113001_2 _ _ x113002_4 _ _ x113003_5 _ _ x113004_5 a2 a1_0 false _ ?side1 ?side2 ?side3 ?side4 ?side5 ?side6 ?side7 ?side8 ?side9 ?side10 A144.out).mono ?_); (case side1 => exact Sq.qc HO_113000); (case side2 => exact Sq.ql HO_113000); (case side3 => exact Sq.qc HO_113001); (case side4 => exact Sq.ql HO_113001); (case side5 => exact Sq.qc HO_113002); (case side6 => exact Sq.ql HO_113002); (case side7 => exact Sq.qc HO_113003); (case side8 => exact Sq.ql HO_113003); (case side9 => exact Sq.qc HO_113004); (case side10 => exact Sq.ql HO_113004); rintro e w169 ⟨rfl, hb⟩; refine ⟨_, rfl, ?_⟩; replace HO_113000 := krb HO_113000 hb; replace HO_113001 := krb HO_113001 hb; replace HO_113002 := krb HO_113002 hb; replace HO_113003 := krb HO_113003 hb; replace HO_113004 := krb HO_113004 hb; replace BK108 := kbb BK108 hb; replace BK109 := kbb BK109 hb; replace BK112 := kbb BK112 hb; replace HB := Aside0.mk (below_step (Sq.kl3 HB GE108 GE109 GE112) hb); (try clear hb); obtain ⟨hcz170_0, hcz170_1, hcz170_2, hcz170_3, hcz170_4⟩ := Sq.c5 BK109; obtain ⟨hfz170_0, hfz170_1, hfz170_2, hfz170_3, hfz170_4⟩ := Sq.z5 BK109))
              refine bodyPost_ret (results_ct rfl _ _ gb109 31 #[.slice none 0 0, .slice none 0 0, .slice none 0 0, .slice none 0 0, .slice none 0 0] (0, 0) _ rfl (by (with_reducible repeat (first | refine blk_drewN ?_ _ | refine blk_drew ?_ | refine blk_alloc ?_ _)); refine blk_put (cs := #[.slice none 0 0, .slice none 0 0, .slice none 0 0, .slice none 0 0, .slice none 0 0]) ?_ 4 _ rfl; (with_reducible repeat (first | refine blk_drewN ?_ _ | refine blk_drew ?_ | refine blk_alloc ?_ _)); refine blk_put (cs := #[.slice none 0 0, .slice none 0 0, .slice none 0 0, .slice none 0 0, .slice none 0 0]) ?_ 3 _ rfl; (with_reducible repeat (first | refine blk_drewN ?_ _ | refine blk_drew ?_ | refine blk_alloc ?_ _)); refine blk_put (cs := #[.slice none 0 0, .slice none 0 0, .slice none 0 0, .slice none 0 0, .slice none 0 0]) ?_ 2 _ rfl; (with_reducible repeat (first | refine blk_drewN ?_ _ | refine blk_drew ?_ | refine blk_alloc ?_ _)); refine blk_put (cs := #[.slice none 0 0, .slice none 0 0, .slice none 0 0, .slice none 0 0, .slice none 0 0]) ?_ 1 _ rfl; (with_reducible repeat (first | refine blk_drewN ?_ _ | refine blk_drew ?_ | refine blk_alloc ?_ _)); refine blk_put (cs := #[.slice none 0 0, .slice none 0 0, .slice none 0 0, .slice none 0 0, .slice none 0 0]) ?_ 0 _ rfl; exact Sq.kb BK109) Try.underlying31 rfl (by kernel_rfl)) rfl ?_
              exact ⟨_, _, _, _, _, by first | rfl | (simp [errW_none, errW_some] <;> rfl) | (simp [*, errW_none, errW_some] <;> rfl), by first | exact Kd.R_nil _ _ _ _ _ | exact Kd.N_nil _ _ _ _ _ | exact Kd.V_nil _ _ _ _ _ | exact Kd.Q_nil _ _ _ _ _ | exact Kd.S_nil _ _ _ _ _, by first | exact Kd.R_nil _ _ _ _ _ | exact Kd.N_nil _ _ _ _ _ | exact Kd.V_nil _ _ _ _ _ | exact Kd.Q_nil _ _ _ _ _ | exact Kd.S_nil _ _ _ _ _, by first | exact Kd.R_nil _ _ _ _ _ | exact Kd.N_nil _ _ _ _ _ | exact Kd.V_nil _ _ _ _ _ | exact Kd.Q_nil _ _ _ _ _ | exact Kd.S_nil _ _ _ _ _, by first | exact Kd.R_nil _ _ _ _ _ | exact Kd.N_nil _ _ _ _ _ | exact Kd.V_nil _ _ _ _ _ | exact Kd.Q_nil _ _ _ _ _ | exact Kd.S_nil _ _ _ _ _, by first | exact Kd.R_nil _ _ _ _ _ | exact Kd.N_nil _ _ _ _ _ | exact Kd.V_nil _ _ _ _ _ | exact Kd.Q_nil _ _ _ _ _ | exact Kd.S_nil _ _ _ _ _, by repeat (first | (with_reducible first | exact HB.out | apply below_alloc | apply pw_below_drewN | apply below_drew1 | refine below_set ?_ GE108.out | refine below_set ?_ GE109.out | refine below_set ?_ GE112.out) | exact HB.out)⟩
             subst c145
             rw [if_pos rfl] at H
             simp only [Option.some.injEq, Prod.mk.injEq] at H
             obtain ⟨rfl, rfl, rfl, rfl, rfl, rfl⟩ := H
             have hnb146 := NB108_109.out
             have hnc146 := NB109_108.out
             have hnb147 := NB108_112.out
             have hnc147 := NB112_108.out
             obtain ⟨hcz148_0, hcz148_1, hcz148_2, hcz148_3, hcz148_4, hcz148_5, hcz148_6⟩ := Sq.c7 BK108
             obtain ⟨hfz148_0, hfz148_1, hfz148_2, hfz148_3, hfz148_4, hfz148_5, hfz148_6⟩ := Sq.z7 BK108
             have hnb149 := NB112_109.out
             have hnc149 := NB109_112.out
             obtain ⟨hcz150_0, hcz150_1, hcz150_2, hcz150_3, hcz150_4⟩ := Sq.c5 BK112
             obtain ⟨hfz150_0, hfz150_1, hfz150_2, hfz150_3, hfz150_4⟩ := Sq.z5 BK112
             obtain ⟨Ao151, co151, eo151⟩ := Kd.R_slice HO_113000.out
             subst eo151
             obtain ⟨Ao152, co152, eo152⟩ := Kd.R_slice HO_113001.out
             subst eo152
             obtain ⟨Ao153, co153, eo153⟩ := Kd.R_slice HO_113002.out
             subst eo153
             obtain ⟨Ao154, co154, eo154⟩ := Kd.R_slice HO_113003.out
             subst eo154
             obtain ⟨Ao155, co155, eo155⟩ := Kd.R_slice HO_113004.out
             subst eo155
             go_wp2_with (first | ((with_reducible refine gate_callee (f := 13) rfl ?_); refine goesL_ (some 268) rfl rfl Try.func13 (by kernel_rfl) rfl #[.agg #[.slice Ao151 x113000_3.length co151, .slice Ao152 x113001_2.length co152, .slice Ao153 x113002_4.length co153, .slice Ao154 x113003_5.length co154, .slice Ao155 x113004_5.length co155], .int .i64 a2, .int .i64 a1_0] rfl (by (try simp only [List.map_toArray, List.map_cons, List.map_nil]); first | done | rfl | (simp only [List.length_drop, List.length_take]; rfl)) ?_; (with_reducible refine (longcaseref06_Right.calls _ _ x113000_3 _ _ x113001_2 _ _ x113002_4 _ _ x113003_5 _ _ x113004_5 a2 a1_0 true _ ?side1 ?side2 ?side3 ?side4 ?side5 ?side6 ?side7 ?side8 ?side9 ?side10 A144.out).mono ?_); (case side1 => exact Sq.qc HO_113000); (case side2 => exact Sq.ql HO_113000); (case side3 => exact Sq.qc HO_113001); (case side4 => exact Sq.ql HO_113001); (case side5 => exact Sq.qc HO_113002); (case side6 => exact Sq.ql HO_113002); (case side7 => exact Sq.qc HO_113003); (case side8 => exact Sq.ql HO_113003); (case side9 => exact Sq.qc HO_113004); (case side10 => exact Sq.ql HO_113004); rintro e w156 ⟨rfl, hb⟩; refine ⟨_, rfl, ?_⟩; replace HO_113000 := krb HO_113000 hb; replace HO_113001 := krb HO_113001 hb; replace HO_113002 := krb HO_113002 hb; replace HO_113003 := krb HO_113003 hb; replace HO_113004 := krb HO_113004 hb; replace BK108 := kbb BK108 hb; replace BK109 := kbb BK109 hb; replace BK112 := kbb BK112 hb; replace HB := Aside0.mk (below_step (Sq.kl3 HB GE108 GE109 GE112) hb); (try clear hb); obtain ⟨hcz157_0, hcz157_1, hcz157_2, hcz157_3, hcz157_4⟩ := Sq.c5 BK112; obtain ⟨hfz157_0, hfz157_1, hfz157_2, hfz157_3, hfz157_4⟩ := Sq.z5 BK112; obtain ⟨hcz158_0, hcz158_1, hcz158_2, hcz158_3, hcz158_4⟩ := Sq.c5 BK109; obtain ⟨hfz158_0, hfz158_1, hfz158_2, hfz158_3, hfz158_4⟩ := Sq.z5 BK109))
             refine bodyPost_ret (results_ct rfl _ _ gb109 31 #[.slice Ao151 x113000_3.length co151, .slice Ao152 x113001_2.length co152, .slice Ao153 x113002_4.length co153, .slice Ao154 x113003_5.length co154, .slice Ao155 x113004_5.length co155] (0, 0) _ rfl (by (with_reducible repeat (first | refine blk_drewN ?_ _ | refine blk_drew ?_ | refine blk_alloc ?_ _)); refine blk_put (cs := #[.slice Ao151 x113000_3.length co151, .slice Ao152 x113001_2.length co152, .slice Ao153 x113002_4.length co153, .slice Ao154 x113003_5.length co154, .slice none 0 0]) ?_ 4 _ rfl; (with_reducible repeat (first | refine blk_drewN ?_ _ | refine blk_drew ?_ | refine blk_alloc ?_ _)); refine blk_put (cs := #[.slice Ao151 x113000_3.length co151, .slice Ao152 x113001_2.length co152, .slice Ao153 x113002_4.length co153, .slice none 0 0, .slice none 0 0]) ?_ 3 _ rfl; (with_reducible repeat (first | refine blk_drewN ?_ _ | refine blk_drew ?_ | refine blk_alloc ?_ _)); refine blk_put (cs := #[.slice Ao151 x113000_3.length co151, .slice Ao152 x113001_2.length co152, .slice none 0 0, .slice none 0 0, .slice none 0 0]) ?_ 2 _ rfl; (with_reducible repeat (first | refine blk_drewN ?_ _ | refine blk_drew ?_ | refine blk_alloc ?_ _)); refine blk_put (cs := #[.slice Ao151 x113000_3.length co151, .slice none 0 0, .slice none 0 0, .slice none 0 0, .slice none 0 0]) ?_ 1 _ rfl; (with_reducible repeat (first | refine blk_drewN ?_ _ | refine blk_drew ?_ | refine blk_alloc ?_ _)); refine blk_put (cs := #[.slice none 0 0, .slice none 0 0, .slice none 0 0, .slice none 0 0, .slice none 0 0]) ?_ 0 _ rfl; exact Sq.kb BK109) Try.underlying31 rfl (by kernel_rfl)) rfl ?_
             exact ⟨_, _, _, _, _, by first | rfl | (simp [errW_none, errW_some] <;> rfl) | (simp [*, errW_none, errW_some] <;> rfl), by (with_reducible repeat (first | apply Kd.R_alloc | apply Kd.R_drewN | apply Kd.R_drew)); exact Kd.R_mono (Sq.rf5 HO_113000 BK109) (fun _ hk => trivial), by (with_reducible repeat (first | apply Kd.R_alloc | apply Kd.R_drewN | apply Kd.R_drew)); exact Kd.R_mono (Sq.rf5 HO_113001 BK109) (fun _ hk => trivial), by (with_reducible repeat (first | apply Kd.R_alloc | apply Kd.R_drewN | apply Kd.R_drew)); exact Kd.R_mono (Sq.rf5 HO_113002 BK109) (fun _ hk => trivial), by (with_reducible repeat (first | apply Kd.R_alloc | apply Kd.R_drewN | apply Kd.R_drew)); exact Kd.R_mono (Sq.rf5 HO_113003 BK109) (fun _ hk => hk.1), by (with_reducible repeat (first | apply Kd.R_alloc | apply Kd.R_drewN | apply Kd.R_drew)); exact Kd.R_mono (Sq.rf5 HO_113004 BK109) (fun _ hk => hk.1), by repeat (first | (with_reducible first | exact HB.out | apply below_alloc | apply pw_below_drewN | apply below_drew1 | refine below_set ?_ GE108.out | refine below_set ?_ GE109.out | refine below_set ?_ GE112.out) | exact HB.out)⟩
            rw [if_pos c114] at H
            have c114b0 : decide (x32_5 < (wrap64 (a1_2 + a1_1))) = true := decide_eq_true c114
            clear c114
            obtain ⟨ji115, hji115⟩ : ∃ j_ : Int, (wrap64 ((wrap64 ((wrap64 ((wrap64 ((wrap64 ((wrap64 (a1_4 * a2)) + a1_4)) + (wrap64 (6 * a1_5)))) + a1_6)) + (wrap64 (a1_3 * (wrap64 (a2 + 4)))))) + x32_5)) = j_ := ⟨_, rfl⟩
            replace H : (if 0 ≤ (ji115) then (if (ji115) < (l0.length : Int) then (if (rd l0 (ji115)) > 1 then (some (([] : List (S56)), ([] : List (S54)), ([] : List (S67)), ([] : List Bool), ([] : List Bool), 4)) else (if x32_5 < a1_2 then (if x113003_5.length < 140737488355328 then (longcaseref06_Decode.l3 k5 l0 a2 (wrap64 ((wrap64 ((wrap64 ((wrap64 ((wrap64 (a1_4 * a2)) + a1_4)) + (wrap64 (6 * a1_5)))) + a1_6)) + (wrap64 (a1_3 * (wrap64 (a2 + 4)))))) (wrap64 ((wrap64 ((wrap64 ((wrap64 ((wrap64 ((wrap64 (a1_4 * a2)) + a1_4)) + (wrap64 (6 * a1_5)))) + a1_6)) + (wrap64 (a1_3 * (wrap64 (a2 + 4)))))) + a1_2)) (wrap64 (x32_5 + 1)) a1_0 a1_1 a1_2 a1_3 a1_4 a1_5 a1_6 x113000_3 x113001_2 x113002_4 (x113003_5 ++ [((rd l0 (ji115)) == 1)]) x113004_5) else (none)) else (if 0 ≤ (wrap64 ((wrap64 ((wrap64 ((wrap64 ((wrap64 ((wrap64 ((wrap64 ((wrap64 (a1_4 * a2)) + a1_4)) + (wrap64 (6 * a1_5)))) + a1_6)) + (wrap64 (a1_3 * (wrap64 (a2 + 4)))))) + a1_2)) + x32_5)) - a1_2)) then (if (wrap64 ((wrap64 ((wrap64 ((wrap64 ((wrap64 ((wrap64 ((wrap64 ((wrap64 (a1_4 * a2)) + a1_4)) + (wrap64 (6 * a1_5)))) + a1_6)) + (wrap64 (a1_3 * (wrap64 (a2 + 4)))))) + a1_2)) + x32_5)) - a1_2)) < (l0.length : Int) then (if x113004_5.length < 140737488355328 then (longcaseref06_Decode.l3 k5 l0 a2 (wrap64 ((wrap64 ((wrap64 ((wrap64 ((wrap64 (a1_4 * a2)) + a1_4)) + (wrap64 (6 * a1_5)))) + a1_6)) + (wrap64 (a1_3 * (wrap64 (a2 + 4)))))) (wrap64 ((wrap64 ((wrap64 ((wrap64 ((wrap64 ((wrap64 (a1_4 * a2)) + a1_4)) + (wrap64 (6 * a1_5)))) + a1_6)) + (wrap64 (a1_3 * (wrap64 (a2 + 4)))))) + a1_2)) (wrap64 (x32_5 + 1)) a1_0 a1_1 a1_2 a1_3 a1_4 a1_5 a1_6 x113000_3 x113001_2 x113002_4 x113003_5 (x113004_5 ++ [((rd l0 (wrap64 ((wrap64 ((wrap64 ((wrap64 ((wrap64 ((wrap64 ((wrap64 ((wrap64 (a1_4 * a2)) + a1_4)) + (wrap64 (6 * a1_5)))) + a1_6)) + (wrap64 (a1_3 * (wrap64 (a2 + 4)))))) + a1_2)) + x32_5)) - a1_2))) == 1)])) else (none)) else (none)) else (none)))) else (none)) else (none)) = some (r1, r2, r3, r4, r5, r6) := by first | (rw [hji115] at H; exact H) | (simp only [hji115] at H ⊢; exact H)
            have hji115w : (IntKind.i64.wrap ((wrap64 ((wrap64 ((wrap64 ((wrap64 ((wrap64 (a1_4 * a2)) + a1_4)) + (wrap64 (6 * a1_5)))) + a1_6)) + (wrap64 (a1_3 * (wrap64 (a2 + 4)))))) + x32_5)) = ji115 := (i64_w _).trans hji115
            by_cases c116 : 0 ≤ (ji115)
            rotate_left
            ·
             rw [if_neg c116] at H
             exact absurd H (by simp)
            rw [if_pos c116] at H
            have c116b0 : decide (0 ≤ (ji115)) = true := decide_eq_true c116
            clear c116
            by_cases c117 : (ji115) < (l0.length : Int)
            rotate_left
            ·
             rw [if_neg c117] at H
             exact absurd H (by simp)
            rw [if_pos c117] at H
            have c117b0 : decide ((ji115) < (l0.length : Int)) = true := decide_eq_true c117
            clear c117
            by_cases c118 : (rd l0 (ji115)) > 1
            ·
             rw [if_pos c118] at H
             have c118b0 : decide (1 < (rd l0 (ji115))) = true := decide_eq_true c118
             clear c118
             simp only [Option.some.injEq, Prod.mk.injEq] at H
             obtain ⟨rfl, rfl, rfl, rfl, rfl, rfl⟩ := H
             have hnb119 := NB108_109.out
             have hnc119 := NB109_108.out
             have hnb120 := NB108_112.out
             have hnc120 := NB112_108.out
             obtain ⟨hcz121_0, hcz121_1, hcz121_2, hcz121_3, hcz121_4, hcz121_5, hcz121_6⟩ := Sq.c7 BK108
             obtain ⟨hfz121_0, hfz121_1, hfz121_2, hfz121_3, hfz121_4, hfz121_5, hfz121_6⟩ := Sq.z7 BK108
             have p139 : 0 ≤ ((ji115) : Int) := of_decide_eq_true (by first | (with_reducible assumption) | assumption)
             have q139 : (ji115) < (l0.length : Int) := of_decide_eq_true (by first | (with_reducible assumption) | assumption)
             obtain ⟨ad139, e139, hx139_0⟩ := Kd.at_int HR0.out (ji115) p139 q139
             cases e139
             replace hx139_0 := (HB.out.cell (World.block_lt_of_cell? w _ hx139_0)).trans hx139_0
             replace p139 := eq_true p139
             replace q139 := eq_true q139
             have hnb122 := NB109_112.out
             have hnc122 := NB112_109.out
             obtain ⟨hcz123_0, hcz123_1, hcz123_2, hcz123_3, hcz123_4⟩ := Sq.c5 BK109
             obtain ⟨hfz123_0, hfz123_1, hfz123_2, hfz123_3, hfz123_4⟩ := Sq.z5 BK109
             go_wp2
             refine bodyPost_ret (results_ct rfl _ _ gb109 31 #[.slice none 0 0, .slice none 0 0, .slice none 0 0, .slice none 0 0, .slice none 0 0] (0, 0) _ rfl (by (with_reducible repeat (first | refine blk_drewN ?_ _ | refine blk_drew ?_ | refine blk_alloc ?_ _)); refine blk_put (cs := #[.slice none 0 0, .slice none 0 0, .slice none 0 0, .slice none 0 0, .slice none 0 0]) ?_ 4 _ rfl; (with_reducible repeat (first | refine blk_drewN ?_ _ | refine blk_drew ?_ | refine blk_alloc ?_ _)); refine blk_put (cs := #[.slice none 0 0, .slice none 0 0, .slice none 0 0, .slice none 0 0, .slice none 0 0]) ?_ 3 _ rfl; (with_reducible repeat (first | refine blk_drewN ?_ _ | refine blk_drew ?_ | refine blk_alloc ?_ _)); refine blk_put (cs := #[.slice none 0 0, .slice none 0 0, .slice none 0 0, .slice none 0 0, .slice none 0 0]) ?_ 2 _ rfl; (with_reducible repeat (first | refine blk_drewN ?_ _ | refine blk_drew ?_ | refine blk_alloc ?_ _)); refine blk_put (cs := #[.slice none 0 0, .slice none 0 0, .slice none 0 0, .slice none 0 0, .slice none 0 0]) ?_ 1 _ rfl; (with_reducible repeat (first | refine blk_drewN ?_ _ | refine blk_drew ?_ | refine blk_alloc ?_ _)); refine blk_put (cs := #[.slice none 0 0, .slice none 0 0, .slice none 0 0, .slice none 0 0, .slice none 0 0]) ?_ 0 _ rfl; exact Sq.kb BK109) Try.underlying31 rfl (by kernel_rfl)) rfl ?_
             exact ⟨_, _, _, _, _, by first | rfl | (simp [errW_none, errW_some] <;> rfl) | (simp only [← hji115]; first | rfl | (simp [errW_none, errW_some] <;> rfl)) | (simp [*, errW_none, errW_some] <;> rfl), by first | exact Kd.R_nil _ _ _ _ _ | exact Kd.N_nil _ _ _ _ _ | exact Kd.V_nil _ _ _ _ _ | exact Kd.Q_nil _ _ _ _ _ | exact Kd.S_nil _ _ _ _ _, by first | exact Kd.R_nil _ _ _ _ _ | exact Kd.N_nil _ _ _ _ _ | exact Kd.V_nil _ _ _ _ _ | exact Kd.Q_nil _ _ _ _ _ | exact Kd.S_nil _ _ _ _ _, by first | exact Kd.R_nil _ _ _ _ _ | exact Kd.N_nil _ _ _ _ _ | exact Kd.V_nil _ _ _ _ _ | exact Kd.Q_nil _ _ _ _ _ | exact Kd.S_nil _ _ _ _ _, by first | exact Kd.R_nil _ _ _ _ _ | exact Kd.N_nil _ _ _ _ _ | exact Kd.V_nil _ _ _ _ _ | exact Kd.Q_nil _ _ _ _ _ | exact Kd.S_nil _ _ _ _ _, by first | exact Kd.R_nil _ _ _ _ _ | exact Kd.N_nil _ _ _ _ _ | exact Kd.V_nil _ _ _ _ _ | exact Kd.Q_nil _ _ _ _ _ | exact Kd.S_nil _ _ _ _ _, by repeat (first | (with_reducible first | exact HB.out | apply below_alloc | apply pw_below_drewN | apply below_drew1 | refine below_set ?_ GE108.out | refine below_set ?_ GE109.out | refine below_set ?_ GE112.out) | exact HB.out)⟩
            rw [if_neg c118] at H
            have c118b0 : decide (1 < (rd l0 (ji115))) = false := decide_eq_false c118
            clear c118
            by_cases c124 : x32_5 < a1_2
            ·
             rw [if_pos c124] at H
             have c124b0 : decide (x32_5 < a1_2) = true := decide_eq_true c124
             clear c124
             by_cases c125 : x113003_5.length < 140737488355328
             rotate_left
             ·
              rw [if_neg c125] at H
              exact absurd H (by simp)
             rw [if_pos c125] at H
             have LMc125 := Aside0.mk c125
             clear c125
             obtain ⟨y141, hy141⟩ : ∃ y_ : List Bool, y_ = (x113003_5 ++ [((rd l0 (ji115)) == 1)]) := ⟨_, rfl⟩
             replace H : (longcaseref06_Decode.l3 k5 l0 a2 (wrap64 ((wrap64 ((wrap64 ((wrap64 ((wrap64 (a1_4 * a2)) + a1_4)) + (wrap64 (6 * a1_5)))) + a1_6)) + (wrap64 (a1_3 * (wrap64 (a2 + 4)))))) (wrap64 ((wrap64 ((wrap64 ((wrap64 ((wrap64 ((wrap64 (a1_4 * a2)) + a1_4)) + (wrap64 (6 * a1_5)))) + a1_6)) + (wrap64 (a1_3 * (wrap64 (a2 + 4)))))) + a1_2)) (wrap64 (x32_5 + 1)) a1_0 a1_1 a1_2 a1_3 a1_4 a1_5 a1_6 x113000_3 x113001_2 x113002_4 y141 x113004_5) = some (r1, r2, r3, r4, r5, r6) := by first | (rw [hy141]; with_reducible exact H) | (have H2_ := (Option.bind_some _ _).symm.trans H; rw [hy141]; with_reducible exact H2_) | (have H2_ := (Option.bind_some _ _).symm.trans H; with_reducible exact H2_) | with_reducible exact H | (rw [hy141]; exact H) | exact H
             have Ny141 := Aside0.mk hy141
             clear hy141
             have H' := Aside0.mk H
             clear H
             have hnb126 := NB108_109.out
             have hnc126 := NB109_108.out
             have hnb127 := NB108_112.out
             have hnc127 := NB112_108.out
             obtain ⟨hcz128_0, hcz128_1, hcz128_2, hcz128_3, hcz128_4, hcz128_5, hcz128_6⟩ := Sq.c7 BK108
             obtain ⟨hfz128_0, hfz128_1, hfz128_2, hfz128_3, hfz128_4, hfz128_5, hfz128_6⟩ := Sq.z7 BK108
             have p139 : 0 ≤ ((ji115) : Int) := of_decide_eq_true (by first | (with_reducible assumption) | assumption)
             have q139 : (ji115) < (l0.length : Int) := of_decide_eq_true (by first | (with_reducible assumption) | assumption)
             obtain ⟨ad139, e139, hx139_0⟩ := Kd.at_int HR0.out (ji115) p139 q139
             cases e139
             replace hx139_0 := (HB.out.cell (World.block_lt_of_cell? w _ hx139_0)).trans hx139_0
             replace p139 := eq_true p139
             replace q139 := eq_true q139
             try go_wp2
             replace HO_113000 := Aside0.mk (Kd.R_drew HO_113000.out)
             replace HO_113001 := Aside0.mk (Kd.R_drew HO_113001.out)
             replace HO_113002 := Aside0.mk (Kd.R_drew HO_113002.out)
             replace HO_113003 := Aside0.mk (Kd.R_drew HO_113003.out)
             replace HO_113004 := Aside0.mk (Kd.R_drew HO_113004.out)
             replace BK108 := Aside0.mk (blk_drew BK108.out)
             replace BK109 := Aside0.mk (blk_drew BK109.out)
             replace BK112 := Aside0.mk (blk_drew BK112.out)
             replace HB := Aside0.mk (below_drew1 HB.out)
             have p140 : 0 ≤ ((ji115) : Int) := of_decide_eq_true (by first | (with_reducible assumption) | assumption)
             have q140 : (ji115) < (l0.length : Int) := of_decide_eq_true (by first | (with_reducible assumption) | assumption)
             obtain ⟨ad140, e140, hx140_0⟩ := Kd.at_int HR0.out (ji115) p140 q140
             have hw140_0 := hx140_0
             obtain rfl : ad139 = ad140 := (by injection e140)
             replace hx140_0 := (HB.out.cell (World.block_lt_of_cell? w _ hx140_0)).trans hx140_0
             replace p140 := eq_true p140
             replace q140 := eq_true q140
             refine start_ (n := 13) (S := fun w' => w'.cell? ⟨gb112, 0, none⟩ = some (u113000) ∧ w'.cell? ⟨gb112, 1, none⟩ = some (u113001) ∧ w'.cell? ⟨gb112, 2, none⟩ = some (u113002) ∧ w'.cell? ⟨gb112, 3, none⟩ = some (u113003) ∧ w'.cell? ⟨gb112, 4, none⟩ = some (u113004) ∧ w'.cell? (ad139.add ((ji115)).toNat) = some (.int .u8 (rd l0 (ji115)))) (ds := [12]) (Sq.bm 13 0) (by kernel_rfl) rfl (by kernel_rfl) ⟨(blk_cell BK112.out 0).trans rfl, (blk_cell BK112.out 1).trans rfl, (blk_cell BK112.out 2).trans rfl, (blk_cell BK112.out 3).trans rfl, (blk_cell BK112.out 4).trans rfl, ((HB.out.cell (World.block_lt_of_cell? w _ hw140_0)).trans hw140_0)⟩ (fun hHeld => ?_); refine with_tabW longcaseref06_Decode.tab41 longcaseref06_Decode.bits41 (fun HT_ HW_ => ?_)
             generalize wr.drew = w129 at HO_113000 HO_113001 HO_113002 HO_113003 HO_113004 BK108 BK109 BK112 HB hx140_0 hHeld ⊢
             refine Sq.pv 0 237 1 HT_ ?_
             refine Sq.pv 2 239 5 HT_ ?_
             refine Sq.pv 3 240 13 HT_ ?_
             refine Sq.pv 4 241 29 HT_ ?_
             refine Sq.pv 5 242 61 HT_ ?_
             refine Sq.pv 6 243 125 HT_ ?_
             refine Sq.tv 1 238 127 HT_ HW_ hHeld ?_
             refine Sq.tv 7 244 255 HT_ HW_ hHeld ?_
             refine Sq.pv 8 245 511 HT_ ?_
             refine one_ (i := 9) (N := some 246) (bm 13 1023) rfl rfl (one_of HT_.out (by kernel_rfl)) (by decide) (fun K hK => ?_)
             refine value_ (w1 := ?_) (v := ?_) (by rfl) rfl ?_ ?_
             rotate_left 2
             ·
              go_simp
              constructor
              ·
               rfl
              rfl
             refine hK.out _ _ ⟨(blk_cell (blk_alloc BK112.out _) 0).trans rfl, (blk_cell (blk_alloc BK112.out _) 1).trans rfl, (blk_cell (blk_alloc BK112.out _) 2).trans rfl, (blk_cell (blk_alloc BK112.out _) 3).trans rfl, (blk_cell (blk_alloc BK112.out _) 4).trans rfl, (World.cell?_alloc_lt _ _ _ (World.block_lt_of_cell? _ _ (((HB.out.cell (World.block_lt_of_cell? w _ hw140_0)).trans hw140_0)))).trans (((HB.out.cell (World.block_lt_of_cell? w _ hw140_0)).trans hw140_0))⟩ (fun hHeld => ?_)
             clear hK K
             refine norm_ (a' := ?_) ?_ ?_
             rotate_left
             ·
              show Act.put _ (some 246) _ = _
              simp only [Act.put, List.setIfInBounds_toArray, List.set_cons_zero, List.set_cons_succ, i64_w, i32_w]
              rfl
             refine one_ (i := 10) (N := some 247) (bm 13 2047) rfl rfl (one_of HT_.out (by kernel_rfl)) (by decide) (fun K hK => ?_)
             refine Kd.R_append_step Kd.bool (w0 := w) w.heap.size (by rfl) (.tmp 238) (.tmp 246) 25 4 (.bool false) 1 rfl Try.underlying25 info4 rfl (by decide) (by omega) u113003 x113003_5 ((rd l0 (ji115)) == 1) [.bool ((rd l0 (ji115)) == 1)] (fun k_ => some k_ ≠ (u113004 : Value).ownBlock) (fun _ => False) rfl rfl ?aP (fun _ hk => hk.elim) ?aF ?aO ?aB ?aS ?aL ?_
             (case aP => exact rfl)
             (case aB => exact (Sq.kl3 HB GE108 GE109 GE112))
             (case aF => exact (fun k_ hk => Kd.fresh' (Kd.R_lt (kr HO_113004)) k_ hk))
             (case aO => exact (kr HO_113003))
             (case aS => exact (below_size (Sq.kl3 HB GE108 GE109 GE112)))
             (case aL => have := LMc125.out; omega)
             intro v142 w130 ho hb hg hat
             rw [← Ny141.out] at ho
             replace HO_113000 := Aside0.mk (Kd.R_over' (kr HO_113000) (Kd.R_typed (kr HO_113003)) (by decide) hg)
             replace HO_113001 := Aside0.mk (Kd.R_over' (kr HO_113001) (Kd.R_typed (kr HO_113003)) (by decide) hg)
             replace HO_113002 := Aside0.mk (Kd.R_over' (kr HO_113002) (Kd.R_typed (kr HO_113003)) (by decide) hg)
             replace HO_113004 := Aside0.mk (Kd.R_after (ok := (fun _ => True)) (by (with_reducible repeat (first | apply Kd.R_alloc | apply Kd.R_drewN | apply Kd.R_drew)); exact Kd.R_mono HO_113004.out (fun _ hk => ⟨trivial, hk⟩)) hg hat)
             replace BK108 := Aside0.mk (blk_grown (g := gb108) (o := .cells #[.int .i64 a1_0, .int .i64 a1_1, .int .i64 a1_2, .int .i64 a1_3, .int .i64 a1_4, .int .i64 a1_5, .int .i64 a1_6] 41 (0, 0)) (kb BK108) hg (Kd.R_ne HO_113003.out BK108.out (by decide)))
             replace BK109 := Aside0.mk (blk_grown (g := gb109) (o := .cells #[.slice none 0 0, .slice none 0 0, .slice none 0 0, .slice none 0 0, .slice none 0 0] 31 (0, 0)) (kb BK109) hg (Kd.R_ne HO_113003.out BK109.out (by decide)))
             replace BK112 := Aside0.mk (blk_grown (g := gb112) (o := .cells #[u113000, u113001, u113002, u113003, u113004] 31 (0, 0)) (kb BK112) hg (Kd.R_ne HO_113003.out BK112.out (by decide)))
             replace HB := Aside0.mk (hb)
             have HO143 := Aside0.mk (ho)
             clear HO_113003 ho hb hg hat
             obtain ⟨Ao131, co131, eo131⟩ := Kd.R_slice HO143.out
             (first | subst eo131 | (injection eo131 with f1_ f2_ f3_; have f4_ := f1_.symm; have f5_ := f3_.symm; clear f1_ f2_ f3_; subst f4_; subst f5_))
             refine hK.out _ _ ⟨(blk_cell BK112.out 0).trans rfl, (blk_cell BK112.out 1).trans rfl, (blk_cell BK112.out 2).trans rfl, (blk_cell BK112.out 3).trans rfl, (blk_cell BK112.out 4).trans rfl, ((HB.out.cell (World.block_lt_of_cell? w _ hw140_0)).trans hw140_0)⟩ (fun hHeld => ?_)
             clear hK K
             refine norm_ (a' := ?_) ?_ ?_
             rotate_left
             ·
              show Act.put _ (some 247) _ = _
              simp only [Act.put, List.setIfInBounds_toArray, List.set_cons_zero, List.set_cons_succ, i64_w, i32_w]
              rfl
             refine Sq.pv 11 248 4095 HT_ ?_
             refine last_ (i := 12) (N := none) #[true, true, true, true, true, true, true, true, true, true, true, true, true] rfl rfl (one_of HT_.out (by kernel_rfl)) (by decide) (fun K hK => ?_)
             have hs132 := kc BK112 3 rfl
             have hfs132 := blk_frozen BK112.out 3
             have hns132_0 := NB108_112.out
             have hns132_1 := NB109_112.out
             have hms132_0 := NB112_108.out
             have hms132_1 := NB112_109.out
             refine skip_ (w1 := ?_) (by rfl) rfl ?_ ?_
             rotate_left
             ·
              go_simp
              rfl
             refine hK.out _ _ ?_
             clear hK K
             refine done_ (done_of HT_.out (by kernel_rfl)) ?_
             try go_wp2
             go_roundg k5
             case measure => have := HJ4.out; have := HK2.out; have := HK3.out; have := HK4.out; have := HK5.out; omega
             case rel => exact ⟨(wrap64 (x32_5 + 1)), (y141), (x113004_5), (.slice Ao131 y141.length co131), (u113004), (by first | rfl | (simp; done) | (simp [*]; done)), H', ⟨by have := HJ4.out; have := HK2.out; have := HK3.out; have := HK4.out; have := HK5.out; omega⟩, ⟨by (with_reducible repeat (first | apply Kd.R_alloc | apply Kd.R_drewN | apply Kd.R_drew)); exact Kd.R_mono (Sq.rf1 HO_113000 BK112) (fun _ hk => trivial)⟩, ⟨by (with_reducible repeat (first | apply Kd.R_alloc | apply Kd.R_drewN | apply Kd.R_drew)); exact Kd.R_mono (Sq.rf1 HO_113001 BK112) (fun _ hk => trivial)⟩, ⟨by (with_reducible repeat (first | apply Kd.R_alloc | apply Kd.R_drewN | apply Kd.R_drew)); exact Kd.R_mono (Sq.rf1 HO_113002 BK112) (fun _ hk => trivial)⟩, ⟨by (with_reducible repeat (first | apply Kd.R_alloc | apply Kd.R_drewN | apply Kd.R_drew)); exact Kd.R_mono (Sq.rf1 HO143 BK112) (fun _ hk => hk.1)⟩, ⟨by (with_reducible repeat (first | apply Kd.R_alloc | apply Kd.R_drewN | apply Kd.R_drew)); exact Kd.R_mono (Sq.rf1 HO_113004 BK112) (fun _ hk => hk.1.2)⟩, ⟨by (with_reducible repeat (first | refine blk_drewN ?_ _ | refine blk_drew ?_ | refine blk_alloc ?_ _)); refine blk_far ?_ NB108_112.out _; exact Sq.kb BK108⟩, ⟨by (with_reducible repeat (first | refine blk_drewN ?_ _ | refine blk_drew ?_ | refine blk_alloc ?_ _)); refine blk_far ?_ NB109_112.out _; exact Sq.kb BK109⟩, ⟨by (with_reducible repeat (first | refine blk_drewN ?_ _ | refine blk_drew ?_ | refine blk_alloc ?_ _)); refine blk_put (cs := #[u113000, u113001, u113002, u113003, u113004]) ?_ 3 _ rfl; exact Sq.kb BK112⟩, ⟨Sq.kl3 HB GE108 GE109 GE112⟩⟩
            rw [if_neg c124] at H
            have c124b0 : decide (x32_5 < a1_2) = false := decide_eq_false c124
            clear c124
            obtain ⟨ji133, hji133⟩ : ∃ j_ : Int, (wrap64 ((wrap64 ((wrap64 ((wrap64 ((wrap64 ((wrap64 ((wrap64 ((wrap64 (a1_4 * a2)) + a1_4)) + (wrap64 (6 * a1_5)))) + a1_6)) + (wrap64 (a1_3 * (wrap64 (a2 + 4)))))) + a1_2)) + x32_5)) - a1_2)) = j_ := ⟨_, rfl⟩
            replace H : (if 0 ≤ (ji133) then (if (ji133) < (l0.length : Int) then (if x113004_5.length < 140737488355328 then (longcaseref06_Decode.l3 k5 l0 a2 (wrap64 ((wrap64 ((wrap64 ((wrap64 ((wrap64 (a1_4 * a2)) + a1_4)) + (wrap64 (6 * a1_5)))) + a1_6)) + (wrap64 (a1_3 * (wrap64 (a2 + 4)))))) (wrap64 ((wrap64 ((wrap64 ((wrap64 ((wrap64 ((wrap64 (a1_4 * a2)) + a1_4)) + (wrap64 (6 * a1_5)))) + a1_6)) + (wrap64 (a1_3 * (wrap64 (a2 + 4)))))) + a1_2)) (wrap64 (x32_5 + 1)) a1_0 a1_1 a1_2 a1_3 a1_4 a1_5 a1_6 x113000_3 x113001_2 x113002_4 x113003_5 (x113004_5 ++ [((rd l0 (ji133)) == 1)])) else (none)) else (none)) else (none)) = some (r1, r2, r3, r4, r5, r6) := by first | (rw [hji133] at H; exact H) | (simp only [hji133] at H ⊢; exact H)
            have hji133w : (IntKind.i64.wrap ((wrap64 ((wrap64 ((wrap64 ((wrap64 ((wrap64 ((wrap64 ((wrap64 (a1_4 * a2)) + a1_4)) + (wrap64 (6 * a1_5)))) + a1_6)) + (wrap64 (a1_3 * (wrap64 (a2 + 4)))))) + a1_2)) + x32_5)) - a1_2)) = ji133 := (i64_w _).trans hji133
            by_cases c134 : 0 ≤ (ji133)
            rotate_left
            ·
             rw [if_neg c134] at H
             exact absurd H (by simp)
            rw [if_pos c134] at H
            have c134b0 : decide (0 ≤ (ji133)) = true := decide_eq_true c134
            clear c134
            by_cases c135 : (ji133) < (l0.length : Int)
            rotate_left
            ·
             rw [if_neg c135] at H
             exact absurd H (by simp)
            rw [if_pos c135] at H
            have c135b0 : decide ((ji133) < (l0.length : Int)) = true := decide_eq_true c135
            clear c135
            by_cases c136 : x113004_5.length < 140737488355328
            rotate_left
            ·
             rw [if_neg c136] at H
             exact absurd H (by simp)
            rw [if_pos c136] at H
            have LMc136 := Aside0.mk c136
            clear c136
            obtain ⟨y145, hy145⟩ : ∃ y_ : List Bool, y_ = (x113004_5 ++ [((rd l0 (ji133)) == 1)]) := ⟨_, rfl⟩
            replace H : (longcaseref06_Decode.l3 k5 l0 a2 (wrap64 ((wrap64 ((wrap64 ((wrap64 ((wrap64 (a1_4 * a2)) + a1_4)) + (wrap64 (6 * a1_5)))) + a1_6)) + (wrap64 (a1_3 * (wrap64 (a2 + 4)))))) (wrap64 ((wrap64 ((wrap64 ((wrap64 ((wrap64 ((wrap64 (a1_4 * a2)) + a1_4)) + (wrap64 (6 * a1_5)))) + a1_6)) + (wrap64 (a1_3 * (wrap64 (a2 + 4)))))) + a1_2)) (wrap64 (x32_5 + 1)) a1_0 a1_1 a1_2 a1_3 a1_4 a1_5 a1_6 x113000_3 x113001_2 x113002_4 x113003_5 y145) = some (r1, r2, r3, r4, r5, r6) := by first | (rw [hy145]; with_reducible exact H) | (have H2_ := (Option.bind_some _ _).symm.trans H; rw [hy145]; with_reducible exact H2_) | (have H2_ := (Option.bind_some _ _).symm.trans H; with_reducible exact H2_) | with_reducible exact H | (rw [hy145]; exact H) | exact H
            have Ny145 := Aside0.mk hy145
            clear hy145
            have H' := Aside0.mk H
            clear H
            have hnb137 := NB108_109.out
            have hnc137 := NB109_108.out
            have hnb138 := NB108_112.out
            have hnc138 := NB112_108.out
            obtain ⟨hcz139_0, hcz139_1, hcz139_2, hcz139_3, hcz139_4, hcz139_5, hcz139_6⟩ := Sq.c7 BK108
            obtain ⟨hfz139_0, hfz139_1, hfz139_2, hfz139_3, hfz139_4, hfz139_5, hfz139_6⟩ := Sq.z7 BK108
            have p139 : 0 ≤ ((ji115) : Int) := of_decide_eq_true (by first | (with_reducible assumption) | assumption)
            have q139 : (ji115) < (l0.length : Int) := of_decide_eq_true (by first | (with_reducible assumption) | assumption)
            obtain ⟨ad139, e139, hx139_0⟩ := Kd.at_int HR0.out (ji115) p139 q139
            cases e139
            replace hx139_0 := (HB.out.cell (World.block_lt_of_cell? w _ hx139_0)).trans hx139_0
            replace p139 := eq_true p139
            replace q139 := eq_true q139
            try go_wp2
            replace HO_113000 := Aside0.mk (Kd.R_drew HO_113000.out)
            replace HO_113001 := Aside0.mk (Kd.R_drew HO_113001.out)
            replace HO_113002 := Aside0.mk (Kd.R_drew HO_113002.out)
            replace HO_113003 := Aside0.mk (Kd.R_drew HO_113003.out)
            replace HO_113004 := Aside0.mk (Kd.R_drew HO_113004.out)
            replace BK108 := Aside0.mk (blk_drew BK108.out)
            replace BK109 := Aside0.mk (blk_drew BK109.out)
            replace BK112 := Aside0.mk (blk_drew BK112.out)
            replace HB := Aside0.mk (below_drew1 HB.out)
            have p144 : 0 ≤ ((ji133) : Int) := of_decide_eq_true (by first | (with_reducible assumption) | assumption)
            have q144 : (ji133) < (l0.length : Int) := of_decide_eq_true (by first | (with_reducible assumption) | assumption)
            obtain ⟨ad144, e144, hx144_0⟩ := Kd.at_int HR0.out (ji133) p144 q144
            have hw144_0 := hx144_0
            obtain rfl : ad139 = ad144 := (by injection e144)
            replace hx144_0 := (HB.out.cell (World.block_lt_of_cell? w _ hx144_0)).trans hx144_0
            replace p144 := eq_true p144
            replace q144 := eq_true q144
            refine start_ (n := 16) (S := fun w' => w'.cell? ⟨gb112, 0, none⟩ = some (u113000) ∧ w'.cell? ⟨gb112, 1, none⟩ = some (u113001) ∧ w'.cell? ⟨gb112, 2, none⟩ = some (u113002) ∧ w'.cell? ⟨gb112, 3, none⟩ = some (u113003) ∧ w'.cell? ⟨gb112, 4, none⟩ = some (u113004) ∧ w'.cell? ⟨gb108, 0, none⟩ = some (.int .i64 a1_0) ∧ w'.cell? ⟨gb108, 1, none⟩ = some (.int .i64 a1_1) ∧ w'.cell? ⟨gb108, 2, none⟩ = some (.int .i64 a1_2) ∧ w'.cell? ⟨gb108, 3, none⟩ = some (.int .i64 a1_3) ∧ w'.cell? ⟨gb108, 4, none⟩ = some (.int .i64 a1_4) ∧ w'.cell? ⟨gb108, 5, none⟩ = some (.int .i64 a1_5) ∧ w'.cell? ⟨gb108, 6, none⟩ = some (.int .i64 a1_6) ∧ w'.cell? (ad139.add ((ji133)).toNat) = some (.int .u8 (rd l0 (ji133)))) (ds := [15]) (Sq.bm 16 0) (by kernel_rfl) rfl (by kernel_rfl) ⟨(blk_cell BK112.out 0).trans rfl, (blk_cell BK112.out 1).trans rfl, (blk_cell BK112.out 2).trans rfl, (blk_cell BK112.out 3).trans rfl, (blk_cell BK112.out 4).trans rfl, (blk_cell BK108.out 0).trans rfl, (blk_cell BK108.out 1).trans rfl, (blk_cell BK108.out 2).trans rfl, (blk_cell BK108.out 3).trans rfl, (blk_cell BK108.out 4).trans rfl, (blk_cell BK108.out 5).trans rfl, (blk_cell BK108.out 6).trans rfl, ((HB.out.cell (World.block_lt_of_cell? w _ hw144_0)).trans hw144_0)⟩ (fun hHeld => ?_); refine with_tabW longcaseref06_Decode.tab42 longcaseref06_Decode.bits42 (fun HT_ HW_ => ?_)
            generalize wr.drew = w140 at HO_113000 HO_113001 HO_113002 HO_113003 HO_113004 BK108 BK109 BK112 HB hx144_0 hHeld ⊢
            refine Sq.pv 0 249 1 HT_ ?_
            refine Sq.pv 2 251 5 HT_ ?_
            refine Sq.pv 3 252 13 HT_ ?_
            refine Sq.pv 4 253 29 HT_ ?_
            refine Sq.pv 5 254 61 HT_ ?_
            refine Sq.pv 6 255 125 HT_ ?_
            refine Sq.tv 1 250 127 HT_ HW_ hHeld ?_
            refine Sq.tv 7 256 255 HT_ HW_ hHeld ?_
            refine Sq.pv 8 257 511 HT_ ?_
            refine Sq.pv 9 258 1023 HT_ ?_
            refine Sq.tv 10 259 2047 HT_ HW_ hHeld ?_
            refine Sq.pv 11 260 4095 HT_ ?_
            refine one_ (i := 12) (N := some 261) (bm 16 8191) rfl rfl (one_of HT_.out (by kernel_rfl)) (by decide) (fun K hK => ?_)
            refine value_ (w1 := ?_) (v := ?_) (by rfl) rfl ?_ ?_
            rotate_left 2
            ·
             go_simp
             constructor
             ·
              rfl
             rfl
            refine hK.out _ _ ⟨(blk_cell (blk_alloc BK112.out _) 0).trans rfl, (blk_cell (blk_alloc BK112.out _) 1).trans rfl, (blk_cell (blk_alloc BK112.out _) 2).trans rfl, (blk_cell (blk_alloc BK112.out _) 3).trans rfl, (blk_cell (blk_alloc BK112.out _) 4).trans rfl, (blk_cell (blk_alloc BK108.out _) 0).trans rfl, (blk_cell (blk_alloc BK108.out _) 1).trans rfl, (blk_cell (blk_alloc BK108.out _) 2).trans rfl, (blk_cell (blk_alloc BK108.out _) 3).trans rfl, (blk_cell (blk_alloc BK108.out _) 4).trans rfl, (blk_cell (blk_alloc BK108.out _) 5).trans rfl, (blk_cell (blk_alloc BK108.out _) 6).trans rfl, (World.cell?_alloc_lt _ _ _ (World.block_lt_of_cell? _ _ (((HB.out.cell (World.block_lt_of_cell? w _ hw144_0)).trans hw144_0)))).trans (((HB.out.cell (World.block_lt_of_cell? w _ hw144_0)).trans hw144_0))⟩ (fun hHeld => ?_)
            clear hK K
            refine norm_ (a' := ?_) ?_ ?_
            rotate_left
            ·
             show Act.put _ (some 261) _ = _
             simp only [Act.put, List.setIfInBounds_toArray, List.set_cons_zero, List.set_cons_succ, i64_w, i32_w]
             rfl
            refine one_ (i := 13) (N := some 262) (bm 16 16383) rfl rfl (one_of HT_.out (by kernel_rfl)) (by decide) (fun K hK => ?_)
            refine Kd.R_append_step Kd.bool (w0 := w) w.heap.size (by rfl) (.tmp 250) (.tmp 261) 25 4 (.bool false) 1 rfl Try.underlying25 info4 rfl (by decide) (by omega) u113004 x113004_5 ((rd l0 (ji133)) == 1) [.bool ((rd l0 (ji133)) == 1)] (fun k_ => some k_ ≠ (u113003 : Value).ownBlock) (fun _ => False) rfl rfl ?aP (fun _ hk => hk.elim) ?aF ?aO ?aB ?aS ?aL ?_
            (case aP => exact rfl)
            (case aB => exact (Sq.kl3 HB GE108 GE109 GE112))
            (case aF => exact (fun k_ hk => Kd.fresh' (Kd.R_lt (kr HO_113003)) k_ hk))
            (case aO => exact (kr HO_113004))
            (case aS => exact (below_size (Sq.kl3 HB GE108 GE109 GE112)))
            (case aL => have := LMc136.out; omega)
            intro v146 w141 ho hb hg hat
            rw [← Ny145.out] at ho
            replace HO_113000 := Aside0.mk (Kd.R_over' (kr HO_113000) (Kd.R_typed (kr HO_113004)) (by decide) hg)
            replace HO_113001 := Aside0.mk (Kd.R_over' (kr HO_113001) (Kd.R_typed (kr HO_113004)) (by decide) hg)
            replace HO_113002 := Aside0.mk (Kd.R_over' (kr HO_113002) (Kd.R_typed (kr HO_113004)) (by decide) hg)
            replace HO_113003 := Aside0.mk (Kd.R_after (ok := (fun _ => True)) (by (with_reducible repeat (first | apply Kd.R_alloc | apply Kd.R_drewN | apply Kd.R_drew)); exact Kd.R_mono HO_113003.out (fun _ hk => ⟨trivial, hk⟩)) hg hat)
            replace BK108 := Aside0.mk (blk_grown (g := gb108) (o := .cells #[.int .i64 a1_0, .int .i64 a1_1, .int .i64 a1_2, .int .i64 a1_3, .int .i64 a1_4, .int .i64 a1_5, .int .i64 a1_6] 41 (0, 0)) (kb BK108) hg (Kd.R_ne HO_113004.out BK108.out (by decide)))
            replace BK109 := Aside0.mk (blk_grown (g := gb109) (o := .cells #[.slice none 0 0, .slice none 0 0, .slice none 0 0, .slice none 0 0, .slice none 0 0] 31 (0, 0)) (kb BK109) hg (Kd.R_ne HO_113004.out BK109.out (by decide)))
            replace BK112 := Aside0.mk (blk_grown (g := gb112) (o := .cells #[u113000, u113001, u113002, u113003, u113004] 31 (0, 0)) (kb BK112) hg (Kd.R_ne HO_113004.out BK112.out (by decide)))
            replace HB := Aside0.mk (hb)
            have HO147 := Aside0.mk (ho)
            clear HO_113004 ho hb hg hat
            obtain ⟨Ao142, co142, eo142⟩ := Kd.R_slice HO147.out
            (first | subst eo142 | (injection eo142 with f1_ f2_ f3_; have f4_ := f1_.symm; have f5_ := f3_.symm; clear f1_ f2_ f3_; subst f4_; subst f5_))
            refine hK.out _ _ ⟨(blk_cell BK112.out 0).trans rfl, (blk_cell BK112.out 1).trans rfl, (blk_cell BK112.out 2).trans rfl, (blk_cell BK112.out 3).trans rfl, (blk_cell BK112.out 4).trans rfl, (blk_cell BK108.out 0).trans rfl, (blk_cell BK108.out 1).trans rfl, (blk_cell BK108.out 2).trans rfl, (blk_cell BK108.out 3).trans rfl, (blk_cell BK108.out 4).trans rfl, (blk_cell BK108.out 5).trans rfl, (blk_cell BK108.out 6).trans rfl, ((HB.out.cell (World.block_lt_of_cell? w _ hw144_0)).trans hw144_0)⟩ (fun hHeld => ?_)
            clear hK K
            refine norm_ (a' := ?_) ?_ ?_
            rotate_left
            ·
             show Act.put _ (some 262) _ = _
             simp only [Act.put, List.setIfInBounds_toArray, List.set_cons_zero, List.set_cons_succ, i64_w, i32_w]
             rfl
            refine Sq.pv 14 263 32767 HT_ ?_
            refine last_ (i := 15) (N := none) #[true, true, true, true, true, true, true, true, true, true, true, true, true, true, true, true] rfl rfl (one_of HT_.out (by kernel_rfl)) (by decide) (fun K hK => ?_)
            have hs143 := kc BK112 4 rfl
            have hfs143 := blk_frozen BK112.out 4
            have hns143_0 := NB108_112.out
            have hns143_1 := NB109_112.out
            have hms143_0 := NB112_108.out
            have hms143_1 := NB112_109.out
            refine skip_ (w1 := ?_) (by rfl) rfl ?_ ?_
            rotate_left
            ·
             go_simp
             rfl
            refine hK.out _ _ ?_
            clear hK K
            refine done_ (done_of HT_.out (by kernel_rfl)) ?_
            try go_wp2
            go_roundg k5
            case measure => have := HJ4.out; have := HK2.out; have := HK3.out; have := HK4.out; have := HK5.out; omega
            case rel => exact ⟨(wrap64 (x32_5 + 1)), (x113003_5), (y145), (u113003), (.slice Ao142 y145.length co142), (by first | rfl | (simp; done) | (simp [*]; done)), H', ⟨by have := HJ4.out; have := HK2.out; have := HK3.out; have := HK4.out; have := HK5.out; omega⟩, ⟨by (with_reducible repeat (first | apply Kd.R_alloc | apply Kd.R_drewN | apply Kd.R_drew)); exact Kd.R_mono (Sq.rf1 HO_113000 BK112) (fun _ hk => trivial)⟩, ⟨by (with_reducible repeat (first | apply Kd.R_alloc | apply Kd.R_drewN | apply Kd.R_drew)); exact Kd.R_mono (Sq.rf1 HO_113001 BK112) (fun _ hk => trivial)⟩, ⟨by (with_reducible repeat (first | apply Kd.R_alloc | apply Kd.R_drewN | apply Kd.R_drew)); exact Kd.R_mono (Sq.rf1 HO_113002 BK112) (fun _ hk => trivial)⟩, ⟨by (with_reducible repeat (first | apply Kd.R_alloc | apply Kd.R_drewN | apply Kd.R_drew)); exact Kd.R_mono (Sq.rf1 HO_113003 BK112) (fun _ hk => hk.1.2)⟩, ⟨by (with_reducible repeat (first | apply Kd.R_alloc | apply Kd.R_drewN | apply Kd.R_drew)); exact Kd.R_mono (Sq.rf1 HO147 BK112) (fun _ hk => hk.1)⟩, ⟨by (with_reducible repeat (first | refine blk_drewN ?_ _ | refine blk_drew ?_ | refine blk_alloc ?_ _)); refine blk_far ?_ NB108_112.out _; exact Sq.kb BK108⟩, ⟨by (with_reducible repeat (first | refine blk_drewN ?_ _ | refine blk_drew ?_ | refine blk_alloc ?_ _)); refine blk_far ?_ NB109_112.out _; exact Sq.kb BK109⟩, ⟨by (with_reducible repeat (first | refine blk_drewN ?_ _ | refine blk_drew ?_ | refine blk_alloc ?_ _)); refine blk_put (cs := #[u113000, u113001, u113002, u113003, u113004]) ?_ 4 _ rfl; exact Sq.kb BK112⟩, ⟨Sq.kl3 HB GE108 GE109 GE112⟩⟩
       rw [if_pos c46] at H
       have c46b0 : decide (x20_3 < a1_5) = true := decide_eq_true c46
       clear c46
       replace H := Option.bind_eq_some_iff.mp H
       obtain ⟨⟨t119, t120⟩, A470, H⟩ := H
       replace H : (if 0 ≤ (wrap64 ((wrap64 ((wrap64 ((wrap64 (a1_4 * a2)) + a1_4)) + (wrap64 (6 * a1_5)))) + a1_6)) then (if (wrap64 ((wrap64 ((wrap64 ((wrap64 (a1_4 * a2)) + a1_4)) + (wrap64 (6 * a1_5)))) + a1_6)) ≤ (l0.length : Int) then (if 0 ≤ (wrap64 ((wrap64 ((wrap64 ((wrap64 (a1_4 * a2)) + a1_4)) + (wrap64 (6 * x20_3)))) + 5)) then (if (wrap64 ((wrap64 ((wrap64 ((wrap64 (a1_4 * a2)) + a1_4)) + (wrap64 (6 * x20_3)))) + 5)) < (l0.length : Int) then ((longcaseref04_Name.f k3 (l0.take ((wrap64 ((wrap64 ((wrap64 ((wrap64 (a1_4 * a2)) + a1_4)) + (wrap64 (6 * a1_5)))) + a1_6)) : Int).toNat) (wrap64 ((wrap64 ((wrap64 ((wrap64 (a1_4 * a2)) + a1_4)) + (wrap64 (6 * a1_5)))) + (wrap64 (rd l0 (wrap64 ((wrap64 ((wrap64 ((wrap64 (a1_4 * a2)) + a1_4)) + (wrap64 (6 * x20_3)))) + 5))))))).bind fun bt123 => (if 0 ≤ (wrap64 ((wrap64 ((wrap64 ((wrap64 (a1_4 * a2)) + a1_4)) + (wrap64 (6 * x20_3)))) + 4)) then (if (wrap64 ((wrap64 ((wrap64 ((wrap64 (a1_4 * a2)) + a1_4)) + (wrap64 (6 * x20_3)))) + 4)) < (l0.length : Int) then (if (rd l0 (wrap64 ((wrap64 ((wrap64 ((wrap64 (a1_4 * a2)) + a1_4)) + (wrap64 (6 * x20_3)))) + 4))) > 1 then (some (([] : List (S56)), ([] : List (S54)), ([] : List (S67)), ([] : List Bool), ([] : List Bool), 4)) else (if (wrap64 (rd l0 (wrap64 ((wrap64 ((wrap64 ((wrap64 (a1_4 * a2)) + a1_4)) + (wrap64 (6 * x20_3)))) + 5)))) ≥ a1_6 then (some (([] : List (S56)), ([] : List (S54)), ([] : List (S67)), ([] : List Bool), ([] : List Bool), 4)) else (if bt123.2 = true then (if x113000_3.length < 4398046511104 then (longcaseref06_Decode.l1 k3 l0 a2 (wrap64 ((wrap64 (a1_4 * a2)) + a1_4)) (wrap64 ((wrap64 ((wrap64 (a1_4 * a2)) + a1_4)) + (wrap64 (6 * a1_5)))) (wrap64 ((wrap64 ((wrap64 ((wrap64 (a1_4 * a2)) + a1_4)) + (wrap64 (6 * a1_5)))) + a1_6)) (wrap64 ((wrap64 ((wrap64 ((wrap64 ((wrap64 (a1_4 * a2)) + a1_4)) + (wrap64 (6 * a1_5)))) + a1_6)) + (wrap64 (a1_3 * (wrap64 (a2 + 4)))))) (wrap64 ((wrap64 ((wrap64 ((wrap64 ((wrap64 ((wrap64 (a1_4 * a2)) + a1_4)) + (wrap64 (6 * a1_5)))) + a1_6)) + (wrap64 (a1_3 * (wrap64 (a2 + 4)))))) + a1_2)) (wrap64 (x20_3 + 1)) a1_0 a1_1 a1_2 a1_3 a1_4 a1_5 a1_6 (x113000_3 ++ [(⟨t119, ((rd l0 (wrap64 ((wrap64 ((wrap64 ((wrap64 (a1_4 * a2)) + a1_4)) + (wrap64 (6 * x20_3)))) + 4))) == 1), bt123.1⟩ : S56)]) x113001_2) else (none)) else (some (([] : List (S56)), ([] : List (S54)), ([] : List (S67)), ([] : List Bool), ([] : List Bool), 4))))) else (none)) else (none))) else (none)) else (none)) else (none)) else (none)) = some (r1, r2, r3, r4, r5, r6) := H
       have A47 := Aside0.mk A470
       clear A470
       obtain ⟨ji48, hji48⟩ : ∃ j_ : Int, (wrap64 ((wrap64 ((wrap64 ((wrap64 (a1_4 * a2)) + a1_4)) + (wrap64 (6 * a1_5)))) + a1_6)) = j_ := ⟨_, rfl⟩
       replace H : (if 0 ≤ (ji48) then (if (ji48) ≤ (l0.length : Int) then (if 0 ≤ (wrap64 ((wrap64 ((wrap64 ((wrap64 (a1_4 * a2)) + a1_4)) + (wrap64 (6 * x20_3)))) + 5)) then (if (wrap64 ((wrap64 ((wrap64 ((wrap64 (a1_4 * a2)) + a1_4)) + (wrap64 (6 * x20_3)))) + 5)) < (l0.length : Int) then ((longcaseref04_Name.f k3 (l0.take ((ji48) : Int).toNat) (wrap64 ((wrap64 ((wrap64 ((wrap64 (a1_4 * a2)) + a1_4)) + (wrap64 (6 * a1_5)))) + (wrap64 (rd l0 (wrap64 ((wrap64 ((wrap64 ((wrap64 (a1_4 * a2)) + a1_4)) + (wrap64 (6 * x20_3)))) + 5))))))).bind fun bt123 => (if 0 ≤ (wrap64 ((wrap64 ((wrap64 ((wrap64 (a1_4 * a2)) + a1_4)) + (wrap64 (6 * x20_3)))) + 4)) then (if (wrap64 ((wrap64 ((wrap64 ((wrap64 (a1_4 * a2)) + a1_4)) + (wrap64 (6 * x20_3)))) + 4)) < (l0.length : Int) then (if (rd l0 (wrap64 ((wrap64 ((wrap64 ((wrap64 (a1_4 * a2)) + a1_4)) + (wrap64 (6 * x20_3)))) + 4))) > 1 then (some (([] : List (S56)), ([] : List (S54)), ([] : List (S67)), ([] : List Bool), ([] : List Bool), 4)) else (if (wrap64 (rd l0 (wrap64 ((wrap64 ((wrap64 ((wrap64 (a1_4 * a2)) + a1_4)) + (wrap64 (6 * x20_3)))) + 5)))) ≥ a1_6 then (some (([] : List (S56)), ([] : List (S54)), ([] : List (S67)), ([] : List Bool), ([] : List Bool), 4)) else (if bt123.2 = true then (if x113000_3.length < 4398046511104 then (longcaseref06_Decode.l1 k3 l0 a2 (wrap64 ((wrap64 (a1_4 * a2)) + a1_4)) (wrap64 ((wrap64 ((wrap64 (a1_4 * a2)) + a1_4)) + (wrap64 (6 * a1_5)))) (ji48) (wrap64 ((ji48) + (wrap64 (a1_3 * (wrap64 (a2 + 4)))))) (wrap64 ((wrap64 ((ji48) + (wrap64 (a1_3 * (wrap64 (a2 + 4)))))) + a1_2)) (wrap64 (x20_3 + 1)) a1_0 a1_1 a1_2 a1_3 a1_4 a1_5 a1_6 (x113000_3 ++ [(⟨t119, ((rd l0 (wrap64 ((wrap64 ((wrap64 ((wrap64 (a1_4 * a2)) + a1_4)) + (wrap64 (6 * x20_3)))) + 4))) == 1), bt123.1⟩ : S56)]) x113001_2) else (none)) else (some (([] : List (S56)), ([] : List (S54)), ([] : List (S67)), ([] : List Bool), ([] : List Bool), 4))))) else (none)) else (none))) else (none)) else (none)) else (none)) else (none)) = some (r1, r2, r3, r4, r5, r6) := by first | (rw [hji48] at H; exact H) | (simp only [hji48] at H ⊢; exact H)
       (try rw [hji48] at A47)
       have hji48w : (IntKind.i64.wrap ((wrap64 ((wrap64 ((wrap64 (a1_4 * a2)) + a1_4)) + (wrap64 (6 * a1_5)))) + a1_6)) = ji48 := (i64_w _).trans hji48
       by_cases c49 : 0 ≤ (ji48)
       rotate_left
       ·
        rw [if_neg c49] at H
        exact absurd H (by simp)
       rw [if_pos c49] at H
       have c49b0 := eq_true c49
       have c49b1 : decide (0 ≤ (ji48)) = true := decide_eq_true c49
       clear c49
       by_cases c50 : (ji48) ≤ (l0.length : Int)
       rotate_left
       ·
        rw [if_neg c50] at H
        exact absurd H (by simp)
       rw [if_pos c50] at H
       have c50b0 := eq_true c50
       have c50b1 : decide ((ji48) ≤ (l0.length : Int)) = true := decide_eq_true c50
       clear c50
       obtain ⟨ji51, hji51⟩ : ∃ j_ : Int, (wrap64 ((wrap64 ((wrap64 ((wrap64 (a1_4 * a2)) + a1_4)) + (wrap64 (6 * x20_3)))) + 5)) = j_ := ⟨_, rfl⟩
       replace H : (if 0 ≤ (ji51) then (if (ji51) < (l0.length : Int) then ((longcaseref04_Name.f k3 (l0.take ((ji48) : Int).toNat) (wrap64 ((wrap64 ((wrap64 ((wrap64 (a1_4 * a2)) + a1_4)) + (wrap64 (6 * a1_5)))) + (wrap64 (rd l0 (ji51)))))).bind fun bt123 => (if 0 ≤ (wrap64 ((wrap64 ((wrap64 ((wrap64 (a1_4 * a2)) + a1_4)) + (wrap64 (6 * x20_3)))) + 4)) then (if (wrap64 ((wrap64 ((wrap64 ((wrap64 (a1_4 * a2)) + a1_4)) + (wrap64 (6 * x20_3)))) + 4)) < (l0.length : Int) then (if (rd l0 (wrap64 ((wrap64 ((wrap64 ((wrap64 (a1_4 * a2)) + a1_4)) + (wrap64 (6 * x20_3)))) + 4))) > 1 then (some (([] : List (S56)), ([] : List (S54)), ([] : List (S67)), ([] : List Bool), ([] : List Bool), 4)) else (if (wrap64 (rd l0 (ji51))) ≥ a1_6 then (some (([] : List (S56)), ([] : List (S54)), ([] : List (S67)), ([] : List Bool), ([] : List Bool), 4)) else (if bt123.2 = true then (if x113000_3.length < 4398046511104 then (longcaseref06_Decode.l1 k3 l0 a2 (wrap64 ((wrap64 (a1_4 * a2)) + a1_4)) (wrap64 ((wrap64 ((wrap64 (a1_4 * a2)) + a1_4)) + (wrap64 (6 * a1_5)))) (ji48) (wrap64 ((ji48) + (wrap64 (a1_3 * (wrap64 (a2 + 4)))))) (wrap64 ((wrap64 ((ji48) + (wrap64 (a1_3 * (wrap64 (a2 + 4)))))) + a1_2)) (wrap64 (x20_3 + 1)) a1_0 a1_1 a1_2 a1_3 a1_4 a1_5 a1_6 (x113000_3 ++ [(⟨t119, ((rd l0 (wrap64 ((wrap64 ((wrap64 ((wrap64 (a1_4 * a2)) + a1_4)) + (wrap64 (6 * x20_3)))) + 4))) == 1), bt123.1⟩ : S56)]) x113001_2) else (none)) else (some (([] : List (S56)), ([] : List (S54)), ([] : List (S67)), ([] : List Bool), ([] : List Bool), 4))))) else (none)) else (none))) else (none)) else (none)) = some (r1, r2, r3, r4, r5, r6) := by first | (rw [hji51] at H; exact H) | (simp only [hji51] at H ⊢; exact H)
       (try rw [hji51] at A47)
       have hji51w : (IntKind.i64.wrap ((wrap64 ((wrap64 ((wrap64 (a1_4 * a2)) + a1_4)) + (wrap64 (6 * x20_3)))) + 5)) = ji51 := (i64_w _).trans hji51
       by_cases c52 : 0 ≤ (ji51)
       rotate_left
       ·
        rw [if_neg c52] at H
        exact absurd H (by simp)
       rw [if_pos c52] at H
       have c52b0 : decide (0 ≤ (ji51)) = true := decide_eq_true c52
       clear c52
       by_cases c53 : (ji51) < (l0.length : Int)
       rotate_left
       ·
        rw [if_neg c53] at H
        exact absurd H (by simp)
       rw [if_pos c53] at H
       have c53b0 : decide ((ji51) < (l0.length : Int)) = true := decide_eq_true c53
       clear c53
       replace H := Option.bind_eq_some_iff.mp H
       obtain ⟨⟨t123, t124⟩, A540, H⟩ := H
       replace H : (if 0 ≤ (wrap64 ((wrap64 ((wrap64 ((wrap64 (a1_4 * a2)) + a1_4)) + (wrap64 (6 * x20_3)))) + 4)) then (if (wrap64 ((wrap64 ((wrap64 ((wrap64 (a1_4 * a2)) + a1_4)) + (wrap64 (6 * x20_3)))) + 4)) < (l0.length : Int) then (if (rd l0 (wrap64 ((wrap64 ((wrap64 ((wrap64 (a1_4 * a2)) + a1_4)) + (wrap64 (6 * x20_3)))) + 4))) > 1 then (some (([] : List (S56)), ([] : List (S54)), ([] : List (S67)), ([] : List Bool), ([] : List Bool), 4)) else (if (wrap64 (rd l0 (ji51))) ≥ a1_6 then (some (([] : List (S56)), ([] : List (S54)), ([] : List (S67)), ([] : List Bool), ([] : List Bool), 4)) else (if t124 = true then (if x113000_3.length < 4398046511104 then (longcaseref06_Decode.l1 k3 l0 a2 (wrap64 ((wrap64 (a1_4 * a2)) + a1_4)) (wrap64 ((wrap64 ((wrap64 (a1_4 * a2)) + a1_4)) + (wrap64 (6 * a1_5)))) (ji48) (wrap64 ((ji48) + (wrap64 (a1_3 * (wrap64 (a2 + 4)))))) (wrap64 ((wrap64 ((ji48) + (wrap64 (a1_3 * (wrap64 (a2 + 4)))))) + a1_2)) (wrap64 (x20_3 + 1)) a1_0 a1_1 a1_2 a1_3 a1_4 a1_5 a1_6 (x113000_3 ++ [(⟨t119, ((rd l0 (wrap64 ((wrap64 ((wrap64 ((wrap64 (a1_4 * a2)) + a1_4)) + (wrap64 (6 * x20_3)))) + 4))) == 1), t123⟩ : S56)]) x113001_2) else (none)) else (some (([] : List (S56)), ([] : List (S54)), ([] : List (S67)), ([] : List Bool), ([] : List Bool), 4))))) else (none)) else (none)) = some (r1, r2, r3, r4, r5, r6) := H
       have A54 := Aside0.mk A540
       clear A540
       obtain ⟨ji55, hji55⟩ : ∃ j_ : Int, (wrap64 ((wrap64 ((wrap64 ((wrap64 (a1_4 * a2)) + a1_4)) + (wrap64 (6 * x20_3)))) + 4)) = j_ := ⟨_, rfl⟩
       replace H : (if 0 ≤ (ji55) then (if (ji55) < (l0.length : Int) then (if (rd l0 (ji55)) > 1 then (some (([] : List (S56)), ([] : List (S54)), ([] : List (S67)), ([] : List Bool), ([] : List Bool), 4)) else (if (wrap64 (rd l0 (ji51))) ≥ a1_6 then (some (([] : List (S56)), ([] : List (S54)), ([] : List (S67)), ([] : List Bool), ([] : List Bool), 4)) else (if t124 = true then (if x113000_3.length < 4398046511104 then (longcaseref06_Decode.l1 k3 l0 a2 (wrap64 ((wrap64 (a1_4 * a2)) + a1_4)) (wrap64 ((wrap64 ((wrap64 (a1_4 * a2)) + a1_4)) + (wrap64 (6 * a1_5)))) (ji48) (wrap64 ((ji48) + (wrap64 (a1_3 * (wrap64 (a2 + 4)))))) (wrap64 ((wrap64 ((ji48) + (wrap64 (a1_3 * (wrap64 (a2 + 4)))))) + a1_2)) (wrap64 (x20_3 + 1)) a1_0 a1_1 a1_2 a1_3 a1_4 a1_5 a1_6 (x113000_3 ++ [(⟨t119, ((rd l0 (ji55)) == 1), t123⟩ : S56)]) x113001_2) else (none)) else (some (([] : List (S56)), ([] : List (S54)), ([] : List (S67)), ([] : List Bool), ([] : List Bool), 4))))) else (none)) else (none)) = some (r1, r2, r3, r4, r5, r6) := by first | (rw [hji55] at H; exact H) | (simp only [hji55] at H ⊢; exact H)
       (try rw [hji55] at A47)
       (try rw [hji55] at A54)
       have hji55w : (IntKind.i64.wrap ((wrap64 ((wrap64 ((wrap64 (a1_4 * a2)) + a1_4)) + (wrap64 (6 * x20_3)))) + 4)) = ji55 := (i64_w _).trans hji55
       by_cases c56 : 0 ≤ (ji55)
       rotate_left
       ·
        rw [if_neg c56] at H
        exact absurd H (by simp)
       rw [if_pos c56] at H
       have c56b0 : decide (0 ≤ (ji55)) = true := decide_eq_true c56
       clear c56
       by_cases c57 : (ji55) < (l0.length : Int)
       rotate_left
       ·
        rw [if_neg c57] at H
        exact absurd H (by simp)
       rw [if_pos c57] at H
       have c57b0 : decide ((ji55) < (l0.length : Int)) = true := decide_eq_true c57
       clear c57
       by_cases c58 : (rd l0 (ji55)) > 1
       ·
        rw [if_pos c58] at H
        have c58b0 : decide (1 < (rd l0 (ji55))) = true := decide_eq_true c58
        clear c58
        simp only [Option.some.injEq, Prod.mk.injEq] at H
        obtain ⟨rfl, rfl, rfl, rfl, rfl, rfl⟩ := H
        have hnb59 := NB108_109.out
        have hnc59 := NB109_108.out
        have hnb60 := NB108_112.out
        have hnc60 := NB112_108.out
        obtain ⟨hcz61_0, hcz61_1, hcz61_2, hcz61_3, hcz61_4, hcz61_5, hcz61_6⟩ := Sq.c7 BK108
        obtain ⟨hfz61_0, hfz61_1, hfz61_2, hfz61_3, hfz61_4, hfz61_5, hfz61_6⟩ := Sq.z7 BK108
        as_aux_lemma =>
         try go_wp2_with (first | ((with_reducible refine gate_callee (f := 44) rfl ?_); refine goesL_ (some 127) rfl rfl Try.func44 (by kernel_rfl) rfl #[.slice A0 l0.length c0, .int .i64 (wrap64 ((wrap64 ((wrap64 (a1_4 * a2)) + a1_4)) + (wrap64 (6 * x20_3)))), .int .i64 4] rfl (by (try simp only [List.map_toArray, List.map_cons, List.map_nil]); first | done | rfl | (simp only [List.length_drop, List.length_take]; rfl)) ?_; (with_reducible refine (longcaseref04_Int.calls k3 _ _ l0 (wrap64 ((wrap64 ((wrap64 (a1_4 * a2)) + a1_4)) + (wrap64 (6 * x20_3)))) 4 t119 t120 _ ?side1 ?side2 A47.out).mono ?_); (case side1 => exact Sq.qd HR0 HB); (case side2 => exact HC0.out); rintro e w' ⟨rfl, ⟨nd, rfl⟩⟩; refine ⟨_, rfl, ?_⟩; (try (rw [drewN_self wr]; generalize hq_ : World.drewN wr _ = wr; have n0_ : Aside0 (Kd.R k56 56 wr w.heap.size (fun _ => True) u113000 x113000_3) := ⟨by rw [← hq_]; exact (kr HO_113000)⟩; have n1_ : Aside0 (Kd.R k54 54 wr w.heap.size (fun _ => True) u113001 x113001_2) := ⟨by rw [← hq_]; exact (kr HO_113001)⟩; have n2_ : Aside0 (wr.heap[gb108]? = some (.cells #[.int .i64 a1_0, .int .i64 a1_1, .int .i64 a1_2, .int .i64 a1_3, .int .i64 a1_4, .int .i64 a1_5, .int .i64 a1_6] 41 (0, 0))) := ⟨by rw [← hq_]; exact (kb BK108)⟩; have n3_ : Aside0 (wr.heap[gb109]? = some (.cells #[.slice none 0 0, .slice none 0 0, .slice none 0 0, .slice none 0 0, .slice none 0 0] 31 (0, 0))) := ⟨by rw [← hq_]; exact (kb BK109)⟩; have n4_ : Aside0 (wr.heap[gb112]? = some (.cells #[u113000, u113001, .slice none 0 0, .slice none 0 0, .slice none 0 0] 31 (0, 0))) := ⟨by rw [← hq_]; exact (kb BK112)⟩; have n5_ : Aside0 (Below w.heap.size w wr) := ⟨by rw [← hq_]; exact (Sq.kl3 HB GE108 GE109 GE112)⟩; clear HO_113000 HO_113001 BK108 BK109 BK112 HB hq_; have HO_113000 := n0_; have HO_113001 := n1_; have BK108 := n2_; have BK109 := n3_; have BK112 := n4_; have HB := n5_; clear n0_ n1_ n2_ n3_ n4_ n5_))))
         replace HO_113000 := Aside0.mk (Kd.R_drew HO_113000.out)
         replace HO_113001 := Aside0.mk (Kd.R_drew HO_113001.out)
         replace BK108 := Aside0.mk (blk_drew BK108.out)
         replace BK109 := Aside0.mk (blk_drew BK109.out)
         replace BK112 := Aside0.mk (blk_drew BK112.out)
         replace HB := Aside0.mk (below_drew1 HB.out)
         obtain ⟨i063, hi063, _, hsz63, _⟩ := info_parts info5
         obtain ⟨hcut63, hA63, hC63⟩ := print_take_of (P := Try.prog) (Value.int .u8) 0 33 5 .i64 Try.underlying33 hi063 hsz63 A0 c0 l0 (ji48) (of_decide_eq_true (by first | (with_reducible assumption) | assumption)) (of_decide_eq_true (by first | (with_reducible assumption) | assumption)) HC0.out
         have HR121 := Aside0.mk (Kd.C_of_reads (h1 := fun _ => rfl) (hA63 _ (Kd.reads_of_C HR0.out)))
         have HC121 := Aside0.mk hC63
         clear hA63 hC63 hi063 hsz63
         have p122 : 0 ≤ ((ji51) : Int) := of_decide_eq_true (by first | (with_reducible assumption) | assumption)
         have q122 : (ji51) < (l0.length : Int) := of_decide_eq_true (by first | (with_reducible assumption) | assumption)
         obtain ⟨ad122, e122, hx122_0⟩ := Kd.at_int HR0.out (ji51) p122 q122
         have hw122_0 := hx122_0
         cases e122
         replace hx122_0 := (HB.out.cell (World.block_lt_of_cell? w _ hx122_0)).trans hx122_0
         replace p122 := eq_true p122
         replace q122 := eq_true q122
         refine start_ (n := 17) (S := fun w' => w'.cell? (ad122.add ((ji51)).toNat) = some (.int .u8 (rd l0 (ji51)))) (ds := []) (Sq.bm 17 0) (by kernel_rfl) rfl (by kernel_rfl) (((HB.out.cell (World.block_lt_of_cell? w _ hw122_0)).trans hw122_0)) (fun hHeld => ?_); refine with_tabW longcaseref06_Decode.tab24 longcaseref06_Decode.bits24 (fun HT_ HW_ => ?_)
         generalize wr.drew = w62 at HO_113000 HO_113001 BK108 BK109 BK112 HB HR121 hx122_0 hHeld ⊢
         refine Sq.pv 0 131 1 HT_ ?_
         refine Sq.pv 1 132 3 HT_ ?_
         refine Sq.pv 2 133 7 HT_ ?_
         refine Sq.pv 3 134 15 HT_ ?_
         refine Sq.pv 4 135 31 HT_ ?_
         refine Sq.pv 5 136 63 HT_ ?_
         refine Sq.pv 6 137 127 HT_ ?_
         refine Sq.pv 7 138 255 HT_ ?_
         refine take_ (i := 8) (N := some 139) (v := ?_) (a' := ?_) (bm 17 511) rfl rfl (take_ofW HT_.out HW_.out (by kernel_rfl)) (fun _ _ _ h => h) (Or.inl ⟨by rfl, ?_⟩) hHeld ?_ ?_
         rotate_left
         ·
          intro w' s0
          go_simp
          with_reducible rfl
         rotate_left
         ·
          simp only [Act.put, List.setIfInBounds_toArray, List.set_cons_zero, List.set_cons_succ, i64_w, i32_w]
          rfl
         refine Sq.pv 9 140 1023 HT_ ?_
         refine Sq.pv 10 141 2047 HT_ ?_
         refine one_ (i := 11) (N := some 142) (bm 17 4095) rfl rfl (one_of HT_.out (by kernel_rfl)) (by decide) (fun K hK => ?_)
         refine goes_ Try.func45 (by kernel_rfl) rfl #[.slice (some ad122) (l0.take ((ji48) : Int).toNat).length c0, .int .i64 (wrap64 ((wrap64 ((wrap64 ((wrap64 (a1_4 * a2)) + a1_4)) + (wrap64 (6 * a1_5)))) + (wrap64 (rd l0 (ji51)))))] (by rfl) rfl rfl (by (try simp only [List.map_toArray, List.map_cons, List.map_nil]); first | done | (rw [show (l0.take ((ji48) : Int).toNat).length = (ji48).toNat from (by rw [List.length_take]; first | (have h_ : ((ji48) : Int) ≤ (l0.length : Int) := of_decide_eq_true (by first | (with_reducible assumption) | assumption); omega) | (have h_ := hji48_; (repeat' split at h_) <;> omega))] <;> rfl) | (simp only [hji48, hji51]; rfl) | rfl | (simp only [List.length_drop, List.length_take]; rfl)) ?_
         with_reducible refine (longcaseref04_Name.calls k3 _ _ (l0.take ((ji48) : Int).toNat) (wrap64 ((wrap64 ((wrap64 ((wrap64 (a1_4 * a2)) + a1_4)) + (wrap64 (6 * a1_5)))) + (wrap64 (rd l0 (ji51))))) t123 t124 _ ?side1 ?side2 A54.out).mono ?_
         (case side1 => exact Sq.qd HR121 HB)
         (case side2 => exact HC121.out)
         rintro e w' ⟨rfl, ⟨nd, rfl⟩⟩
         refine ⟨_, rfl, ?_⟩
         refine hK.out _ _ (((HB.out.cell (World.block_lt_of_cell? w _ hw122_0)).trans hw122_0)) (fun hHeld => ?_)
         clear hK K
         refine norm_ (a' := ?_) ?_ ?_
         rotate_left
         ·
          show Act.put _ (some 142) _ = _
          simp only [Act.put, List.setIfInBounds_toArray, List.set_cons_zero, List.set_cons_succ, i64_w, i32_w]
          rfl
         refine Sq.pv 12 130 8191 HT_ ?_
         refine Sq.pv 13 143 16383 HT_ ?_
         refine Sq.pv 14 144 32767 HT_ ?_
         refine Sq.pv 15 24 65535 HT_ ?_
         refine Sq.pv 16 25 131071 HT_ ?_
         refine done_ (done_of HT_.out (by kernel_rfl)) ?_
         try go_wp2
         (try (rw [drewN_self w62]; generalize hq_ : World.drewN w62 _ = w62; have n0_ : Aside0 (Kd.R k56 56 w62 w.heap.size (fun _ => True) u113000 x113000_3) := ⟨by rw [← hq_]; exact (kr HO_113000)⟩; have n1_ : Aside0 (Kd.R k54 54 w62 w.heap.size (fun _ => True) u113001 x113001_2) := ⟨by rw [← hq_]; exact (kr HO_113001)⟩; have n2_ : Aside0 (w62.heap[gb108]? = some (.cells #[.int .i64 a1_0, .int .i64 a1_1, .int .i64 a1_2, .int .i64 a1_3, .int .i64 a1_4, .int .i64 a1_5, .int .i64 a1_6] 41 (0, 0))) := ⟨by rw [← hq_]; exact (kb BK108)⟩; have n3_ : Aside0 (w62.heap[gb109]? = some (.cells #[.slice none 0 0, .slice none 0 0, .slice none 0 0, .slice none 0 0, .slice none 0 0] 31 (0, 0))) := ⟨by rw [← hq_]; exact (kb BK109)⟩; have n4_ : Aside0 (w62.heap[gb112]? = some (.cells #[u113000, u113001, .slice none 0 0, .slice none 0 0, .slice none 0 0] 31 (0, 0))) := ⟨by rw [← hq_]; exact (kb BK112)⟩; have n5_ : Aside0 (Below w.heap.size w w62) := ⟨by rw [← hq_]; exact (Sq.kl3 HB GE108 GE109 GE112)⟩; clear HO_113000 HO_113001 BK108 BK109 BK112 HB hq_; have HO_113000 := n0_; have HO_113001 := n1_; have BK108 := n2_; have BK109 := n3_; have BK112 := n4_; have HB := n5_; clear n0_ n1_ n2_ n3_ n4_ n5_))
         replace HO_113000 := Aside0.mk (Kd.R_drew HO_113000.out)
         replace HO_113001 := Aside0.mk (Kd.R_drew HO_113001.out)
         replace BK108 := Aside0.mk (blk_drew BK108.out)
         replace BK109 := Aside0.mk (blk_drew BK109.out)
         replace BK112 := Aside0.mk (blk_drew BK112.out)
         replace HB := Aside0.mk (below_drew1 HB.out)
         have p125 : 0 ≤ ((ji55) : Int) := of_decide_eq_true (by first | (with_reducible assumption) | assumption)
         have q125 : (ji55) < (l0.length : Int) := of_decide_eq_true (by first | (with_reducible assumption) | assumption)
         obtain ⟨ad125, e125, hx125_0⟩ := Kd.at_int HR0.out (ji55) p125 q125
         have hw125_0 := hx125_0
         obtain rfl : ad122 = ad125 := (by injection e125)
         replace hx125_0 := (HB.out.cell (World.block_lt_of_cell? w _ hx125_0)).trans hx125_0
         replace p125 := eq_true p125
         replace q125 := eq_true q125
         refine start_ (n := 21) (S := fun w' => w'.cell? (ad122.add ((ji55)).toNat) = some (.int .u8 (rd l0 (ji55)))) (ds := []) (Sq.bm 21 0) (by kernel_rfl) rfl (by kernel_rfl) (((HB.out.cell (World.block_lt_of_cell? w _ hw125_0)).trans hw125_0)) (fun hHeld => ?_); refine with_tabW longcaseref06_Decode.tab25 longcaseref06_Decode.bits25 (fun HT_ HW_ => ?_)
         generalize w62.drew = w64 at HO_113000 HO_113001 BK108 BK109 BK112 HB hx125_0 hHeld ⊢
         refine Sq.pv 0 145 1 HT_ ?_
         refine Sq.pv 1 146 3 HT_ ?_
         refine Sq.pv 2 147 7 HT_ ?_
         refine Sq.pv 3 148 15 HT_ ?_
         refine take_ (i := 4) (N := some 149) (v := ?_) (a' := ?_) (bm 21 31) rfl rfl (take_ofW HT_.out HW_.out (by kernel_rfl)) (fun _ _ _ h => h) (Or.inl ⟨by rfl, ?_⟩) hHeld ?_ ?_
         rotate_left
         ·
          intro w' s0
          go_simp
          with_reducible rfl
         rotate_left
         ·
          simp only [Act.put, List.setIfInBounds_toArray, List.set_cons_zero, List.set_cons_succ, i64_w, i32_w]
          rfl
         refine Sq.pv 5 150 63 HT_ ?_
         refine Sq.pv 6 151 127 HT_ ?_
         refine Sq.nv 7 152 255 HT_ ?_
         refine Sq.nv 8 153 511 HT_ ?_
         refine Sq.nv 9 154 1023 HT_ ?_
         refine Sq.nv 10 155 2047 HT_ ?_
         refine Sq.nv 11 156 4095 HT_ ?_
         refine Sq.nv 12 157 8191 HT_ ?_
         refine Sq.nv 13 158 16383 HT_ ?_
         refine Sq.nv 14 159 32767 HT_ ?_
         refine Sq.nv 15 160 65535 HT_ ?_
         refine Sq.pv 16 161 131071 HT_ ?_
         refine Sq.pv 17 162 262143 HT_ ?_
         refine Sq.nv 18 163 524287 HT_ ?_
         refine Sq.nv 19 164 1048575 HT_ ?_
         refine Sq.pv 20 165 2097151 HT_ ?_
         refine done_ (done_of HT_.out (by kernel_rfl)) ?_
         have hnb65 := NB109_112.out
         have hnc65 := NB112_109.out
         obtain ⟨hcz66_0, hcz66_1, hcz66_2, hcz66_3, hcz66_4⟩ := Sq.c5 BK109
         obtain ⟨hfz66_0, hfz66_1, hfz66_2, hfz66_3, hfz66_4⟩ := Sq.z5 BK109
         try go_wp2
         refine bodyPost_ret (results_ct rfl _ _ gb109 31 #[.slice none 0 0, .slice none 0 0, .slice none 0 0, .slice none 0 0, .slice none 0 0] (0, 0) _ rfl (by (with_reducible repeat (first | refine blk_drewN ?_ _ | refine blk_drew ?_ | refine blk_alloc ?_ _)); refine blk_put (cs := #[.slice none 0 0, .slice none 0 0, .slice none 0 0, .slice none 0 0, .slice none 0 0]) ?_ 4 _ rfl; (with_reducible repeat (first | refine blk_drewN ?_ _ | refine blk_drew ?_ | refine blk_alloc ?_ _)); refine blk_put (cs := #[.slice none 0 0, .slice none 0 0, .slice none 0 0, .slice none 0 0, .slice none 0 0]) ?_ 3 _ rfl; (with_reducible repeat (first | refine blk_drewN ?_ _ | refine blk_drew ?_ | refine blk_alloc ?_ _)); refine blk_put (cs := #[.slice none 0 0, .slice none 0 0, .slice none 0 0, .slice none 0 0, .slice none 0 0]) ?_ 2 _ rfl; (with_reducible repeat (first | refine blk_drewN ?_ _ | refine blk_drew ?_ | refine blk_alloc ?_ _)); refine blk_put (cs := #[.slice none 0 0, .slice none 0 0, .slice none 0 0, .slice none 0 0, .slice none 0 0]) ?_ 1 _ rfl; (with_reducible repeat (first | refine blk_drewN ?_ _ | refine blk_drew ?_ | refine blk_alloc ?_ _)); refine blk_put (cs := #[.slice none 0 0, .slice none 0 0, .slice none 0 0, .slice none 0 0, .slice none 0 0]) ?_ 0 _ rfl; exact Sq.kb BK109) Try.underlying31 rfl (by kernel_rfl)) rfl ?_
         exact ⟨_, _, _, _, _, by first | rfl | (simp [errW_none, errW_some] <;> rfl) | (simp only [← hji48, ← hji51, ← hji55]; first | rfl | (simp [errW_none, errW_some] <;> rfl)) | (simp [*, errW_none, errW_some] <;> rfl), by first | exact Kd.R_nil _ _ _ _ _ | exact Kd.N_nil _ _ _ _ _ | exact Kd.V_nil _ _ _ _ _ | exact Kd.Q_nil _ _ _ _ _ | exact Kd.S_nil _ _ _ _ _, by first | exact Kd.R_nil _ _ _ _ _ | exact Kd.N_nil _ _ _ _ _ | exact Kd.V_nil _ _ _ _ _ | exact Kd.Q_nil _ _ _ _ _ | exact Kd.S_nil _ _ _ _ _, by first | exact Kd.R_nil _ _ _ _ _ | exact Kd.N_nil _ _ _ _ _ | exact Kd.V_nil _ _ _ _ _ | exact Kd.Q_nil _ _ _ _ _ | exact Kd.S_nil _ _ _ _ _, by first | exact Kd.R_nil _ _ _ _ _ | exact Kd.N_nil _ _ _ _ _ | exact Kd.V_nil _ _ _ _ _ | exact Kd.Q_nil _ _ _ _ _ | exact Kd.S_nil _ _ _ _ _, by first | exact Kd.R_nil _ _ _ _ _ | exact Kd.N_nil _ _ _ _ _ | exact Kd.V_nil _ _ _ _ _ | exact Kd.Q_nil _ _ _ _ _ | exact Kd.S_nil _ _ _ _ _, by repeat (first | (with_reducible first | exact HB.out | apply below_alloc | apply pw_below_drewN | apply below_drew1 | refine below_set ?_ GE108.out | refine below_set ?_ GE109.out | refine below_set ?_ GE112.out) | exact HB.out)⟩
       rw [if_neg c58] at H
       have c58b0 : decide (1 < (rd l0 (ji55))) = false := decide_eq_false c58
       clear c58
       by_cases c67 : (wrap64 (rd l0 (ji51))) ≥ a1_6
       ·
        rw [if_pos c67] at H
        have c67b0 : decide (a1_6 ≤ (wrap64 (rd l0 (ji51)))) = true := decide_eq_true c67
        clear c67
        simp only [Option.some.injEq, Prod.mk.injEq] at H
        obtain ⟨rfl, rfl, rfl, rfl, rfl, rfl⟩ := H
        have hnb68 := NB108_109.out
        have hnc68 := NB109_108.out
        have hnb69 := NB108_112.out
        have hnc69 := NB112_108.out
        obtain ⟨hcz70_0, hcz70_1, hcz70_2, hcz70_3, hcz70_4, hcz70_5, hcz70_6⟩ := Sq.c7 BK108
        obtain ⟨hfz70_0, hfz70_1, hfz70_2, hfz70_3, hfz70_4, hfz70_5, hfz70_6⟩ := Sq.z7 BK108
        as_aux_lemma =>
         try go_wp2_with (first | ((with_reducible refine gate_callee (f := 44) rfl ?_); refine goesL_ (some 127) rfl rfl Try.func44 (by kernel_rfl) rfl #[.slice A0 l0.length c0, .int .i64 (wrap64 ((wrap64 ((wrap64 (a1_4 * a2)) + a1_4)) + (wrap64 (6 * x20_3)))), .int .i64 4] rfl (by (try simp only [List.map_toArray, List.map_cons, List.map_nil]); first | done | rfl | (simp only [List.length_drop, List.length_take]; rfl)) ?_; (with_reducible refine (longcaseref04_Int.calls k3 _ _ l0 (wrap64 ((wrap64 ((wrap64 (a1_4 * a2)) + a1_4)) + (wrap64 (6 * x20_3)))) 4 t119 t120 _ ?side1 ?side2 A47.out).mono ?_); (case side1 => exact Sq.qd HR0 HB); (case side2 => exact HC0.out); rintro e w' ⟨rfl, ⟨nd, rfl⟩⟩; refine ⟨_, rfl, ?_⟩; (try (rw [drewN_self wr]; generalize hq_ : World.drewN wr _ = wr; have n0_ : Aside0 (Kd.R k56 56 wr w.heap.size (fun _ => True) u113000 x113000_3) := ⟨by rw [← hq_]; exact (kr HO_113000)⟩; have n1_ : Aside0 (Kd.R k54 54 wr w.heap.size (fun _ => True) u113001 x113001_2) := ⟨by rw [← hq_]; exact (kr HO_113001)⟩; have n2_ : Aside0 (wr.heap[gb108]? = some (.cells #[.int .i64 a1_0, .int .i64 a1_1, .int .i64 a1_2, .int .i64 a1_3, .int .i64 a1_4, .int .i64 a1_5, .int .i64 a1_6] 41 (0, 0))) := ⟨by rw [← hq_]; exact (kb BK108)⟩; have n3_ : Aside0 (wr.heap[gb109]? = some (.cells #[.slice none 0 0, .slice none 0 0, .slice none 0 0, .slice none 0 0, .slice none 0 0] 31 (0, 0))) := ⟨by rw [← hq_]; exact (kb BK109)⟩; have n4_ : Aside0 (wr.heap[gb112]? = some (.cells #[u113000, u113001, .slice none 0 0, .slice none 0 0, .slice none 0 0] 31 (0, 0))) := ⟨by rw [← hq_]; exact (kb BK112)⟩; have n5_ : Aside0 (Below w.heap.size w wr) := ⟨by rw [← hq_]; exact (Sq.kl3 HB GE108 GE109 GE112)⟩; clear HO_113000 HO_113001 BK108 BK109 BK112 HB hq_; have HO_113000 := n0_; have HO_113001 := n1_; have BK108 := n2_; have BK109 := n3_; have BK112 := n4_; have HB := n5_; clear n0_ n1_ n2_ n3_ n4_ n5_))))
         replace HO_113000 := Aside0.mk (Kd.R_drew HO_113000.out)
         replace HO_113001 := Aside0.mk (Kd.R_drew HO_113001.out)
         replace BK108 := Aside0.mk (blk_drew BK108.out)
         replace BK109 := Aside0.mk (blk_drew BK109.out)
         replace BK112 := Aside0.mk (blk_drew BK112.out)
         replace HB := Aside0.mk (below_drew1 HB.out)
         obtain ⟨i072, hi072, _, hsz72, _⟩ := info_parts info5
         obtain ⟨hcut72, hA72, hC72⟩ := print_take_of (P := Try.prog) (Value.int .u8) 0 33 5 .i64 Try.underlying33 hi072 hsz72 A0 c0 l0 (ji48) (of_decide_eq_true (by first | (with_reducible assumption) | assumption)) (of_decide_eq_true (by first | (with_reducible assumption) | assumption)) HC0.out
         have HR121 := Aside0.mk (Kd.C_of_reads (h1 := fun _ => rfl) (hA72 _ (Kd.reads_of_C HR0.out)))
         have HC121 := Aside0.mk hC72
         clear hA72 hC72 hi072 hsz72
         have p122 : 0 ≤ ((ji51) : Int) := of_decide_eq_true (by first | (with_reducible assumption) | assumption)
         have q122 : (ji51) < (l0.length : Int) := of_decide_eq_true (by first | (with_reducible assumption) | assumption)
         obtain ⟨ad122, e122, hx122_0⟩ := Kd.at_int HR0.out (ji51) p122 q122
         have hw122_0 := hx122_0
         cases e122
         replace hx122_0 := (HB.out.cell (World.block_lt_of_cell? w _ hx122_0)).trans hx122_0
         replace p122 := eq_true p122
         replace q122 := eq_true q122
         refine start_ (n := 17) (S := fun w' => w'.cell? (ad122.add ((ji51)).toNat) = some (.int .u8 (rd l0 (ji51)))) (ds := []) (Sq.bm 17 0) (by kernel_rfl) rfl (by kernel_rfl) (((HB.out.cell (World.block_lt_of_cell? w _ hw122_0)).trans hw122_0)) (fun hHeld => ?_); refine with_tabW longcaseref06_Decode.tab24 longcaseref06_Decode.bits24 (fun HT_ HW_ => ?_)
         generalize wr.drew = w71 at HO_113000 HO_113001 BK108 BK109 BK112 HB HR121 hx122_0 hHeld ⊢
         refine Sq.pv 0 131 1 HT_ ?_
         refine Sq.pv 1 132 3 HT_ ?_
         refine Sq.pv 2 133 7 HT_ ?_
         refine Sq.pv 3 134 15 HT_ ?_
         refine Sq.pv 4 135 31 HT_ ?_
         refine Sq.pv 5 136 63 HT_ ?_
         refine Sq.pv 6 137 127 HT_ ?_
         refine Sq.pv 7 138 255 HT_ ?_
         refine take_ (i := 8) (N := some 139) (v := ?_) (a' := ?_) (bm 17 511) rfl rfl (take_ofW HT_.out HW_.out (by kernel_rfl)) (fun _ _ _ h => h) (Or.inl ⟨by rfl, ?_⟩) hHeld ?_ ?_
         rotate_left
         ·
          intro w' s0
          go_simp
          with_reducible rfl
         rotate_left
         ·
          simp only [Act.put, List.setIfInBounds_toArray, List.set_cons_zero, List.set_cons_succ, i64_w, i32_w]
          rfl
         refine Sq.pv 9 140 1023 HT_ ?_
         refine Sq.pv 10 141 2047 HT_ ?_
         refine one_ (i := 11) (N := some 142) (bm 17 4095) rfl rfl (one_of HT_.out (by kernel_rfl)) (by decide) (fun K hK => ?_)
         refine goes_ Try.func45 (by kernel_rfl) rfl #[.slice (some ad122) (l0.take ((ji48) : Int).toNat).length c0, .int .i64 (wrap64 ((wrap64 ((wrap64 ((wrap64 (a1_4 * a2)) + a1_4)) + (wrap64 (6 * a1_5)))) + (wrap64 (rd l0 (ji51)))))] (by rfl) rfl rfl (by (try simp only [List.map_toArray, List.map_cons, List.map_nil]); first | done | (rw [show (l0.take ((ji48) : Int).toNat).length = (ji48).toNat from (by rw [List.length_take]; first | (have h_ : ((ji48) : Int) ≤ (l0.length : Int) := of_decide_eq_true (by first | (with_reducible assumption) | assumption); omega) | (have h_ := hji48_; (repeat' split at h_) <;> omega))] <;> rfl) | (simp only [hji48, hji51]; rfl) | rfl | (simp only [List.length_drop, List.length_take]; rfl)) ?_
         with_reducible refine (longcaseref04_Name.calls k3 _ _ (l0.take ((ji48) : Int).toNat) (wrap64 ((wrap64 ((wrap64 ((wrap64 (a1_4 * a2)) + a1_4)) + (wrap64 (6 * a1_5)))) + (wrap64 (rd l0 (ji51))))) t123 t124 _ ?side1 ?side2 A54.out).mono ?_
         (case side1 => exact Sq.qd HR121 HB)
         (case side2 => exact HC121.out)
         rintro e w' ⟨rfl, ⟨nd, rfl⟩⟩
         refine ⟨_, rfl, ?_⟩
         refine hK.out _ _ (((HB.out.cell (World.block_lt_of_cell? w _ hw122_0)).trans hw122_0)) (fun hHeld => ?_)
         clear hK K
         refine norm_ (a' := ?_) ?_ ?_
         rotate_left
         ·
          show Act.put _ (some 142) _ = _
          simp only [Act.put, List.setIfInBounds_toArray, List.set_cons_zero, List.set_cons_succ, i64_w, i32_w]
          rfl
         refine Sq.pv 12 130 8191 HT_ ?_
         refine Sq.pv 13 143 16383 HT_ ?_
         refine Sq.pv 14 144 32767 HT_ ?_
         refine Sq.pv 15 24 65535 HT_ ?_
         refine Sq.pv 16 25 131071 HT_ ?_
         refine done_ (done_of HT_.out (by kernel_rfl)) ?_
         try go_wp2
         (try (rw [drewN_self w71]; generalize hq_ : World.drewN w71 _ = w71; have n0_ : Aside0 (Kd.R k56 56 w71 w.heap.size (fun _ => True) u113000 x113000_3) := ⟨by rw [← hq_]; exact (kr HO_113000)⟩; have n1_ : Aside0 (Kd.R k54 54 w71 w.heap.size (fun _ => True) u113001 x113001_2) := ⟨by rw [← hq_]; exact (kr HO_113001)⟩; have n2_ : Aside0 (w71.heap[gb108]? = some (.cells #[.int .i64 a1_0, .int .i64 a1_1, .int .i64 a1_2, .int .i64 a1_3, .int .i64 a1_4, .int .i64 a1_5, .int .i64 a1_6] 41 (0, 0))) := ⟨by rw [← hq_]; exact (kb BK108)⟩; have n3_ : Aside0 (w71.heap[gb109]? = some (.cells #[.slice none 0 0, .slice none 0 0, .slice none 0 0, .slice none 0 0, .slice none 0 0] 31 (0, 0))) := ⟨by rw [← hq_]; exact (kb BK109)⟩; have n4_ : Aside0 (w71.heap[gb112]? = some (.cells #[u113000, u113001, .slice none 0 0, .slice none 0 0, .slice none 0 0] 31 (0, 0))) := ⟨by rw [← hq_]; exact (kb BK112)⟩; have n5_ : Aside0 (Below w.heap.size w w71) := ⟨by rw [← hq_]; exact (Sq.kl3 HB GE108 GE109 GE112)⟩; clear HO_113000 HO_113001 BK108 BK109 BK112 HB hq_; have HO_113000 := n0_; have HO_113001 := n1_; have BK108 := n2_; have BK109 := n3_; have BK112 := n4_; have HB := n5_; clear n0_ n1_ n2_ n3_ n4_ n5_))
         replace HO_113000 := Aside0.mk (Kd.R_drew HO_113000.out)
         replace HO_113001 := Aside0.mk (Kd.R_drew HO_113001.out)
         replace BK108 := Aside0.mk (blk_drew BK108.out)
         replace BK109 := Aside0.mk (blk_drew BK109.out)
         replace BK112 := Aside0.mk (blk_drew BK112.out)
         replace HB := Aside0.mk (below_drew1 HB.out)
         have p125 : 0 ≤ ((ji55) : Int) := of_decide_eq_true (by first | (with_reducible assumption) | assumption)
         have q125 : (ji55) < (l0.length : Int) := of_decide_eq_true (by first | (with_reducible assumption) | assumption)
         obtain ⟨ad125, e125, hx125_0⟩ := Kd.at_int HR0.out (ji55) p125 q125
         have hw125_0 := hx125_0
         obtain rfl : ad122 = ad125 := (by injection e125)
         replace hx125_0 := (HB.out.cell (World.block_lt_of_cell? w _ hx125_0)).trans hx125_0
         replace p125 := eq_true p125
         replace q125 := eq_true q125
         have p126 : 0 ≤ ((ji51) : Int) := of_decide_eq_true (by first | (with_reducible assumption) | assumption)
         have q126 : (ji51) < (l0.length : Int) := of_decide_eq_true (by first | (with_reducible assumption) | assumption)
         obtain ⟨ad126, e126, hx126_0⟩ := Kd.at_int HR0.out (ji51) p126 q126
         have hw126_0 := hx126_0
         obtain rfl : ad122 = ad126 := (by injection e126)
         replace hx126_0 := (HB.out.cell (World.block_lt_of_cell? w _ hx126_0)).trans hx126_0
         replace p126 := eq_true p126
         replace q126 := eq_true q126
         refine start_ (n := 21) (S := fun w' => w'.cell? ⟨gb108, 0, none⟩ = some (.int .i64 a1_0) ∧ w'.cell? ⟨gb108, 1, none⟩ = some (.int .i64 a1_1) ∧ w'.cell? ⟨gb108, 2, none⟩ = some (.int .i64 a1_2) ∧ w'.cell? ⟨gb108, 3, none⟩ = some (.int .i64 a1_3) ∧ w'.cell? ⟨gb108, 4, none⟩ = some (.int .i64 a1_4) ∧ w'.cell? ⟨gb108, 5, none⟩ = some (.int .i64 a1_5) ∧ w'.cell? ⟨gb108, 6, none⟩ = some (.int .i64 a1_6) ∧ w'.cell? (ad122.add ((ji55)).toNat) = some (.int .u8 (rd l0 (ji55))) ∧ w'.cell? (ad122.add ((ji51)).toNat) = some (.int .u8 (rd l0 (ji51)))) (ds := []) (Sq.bm 21 0) (by kernel_rfl) rfl (by kernel_rfl) ⟨(blk_cell BK108.out 0).trans rfl, (blk_cell BK108.out 1).trans rfl, (blk_cell BK108.out 2).trans rfl, (blk_cell BK108.out 3).trans rfl, (blk_cell BK108.out 4).trans rfl, (blk_cell BK108.out 5).trans rfl, (blk_cell BK108.out 6).trans rfl, ((HB.out.cell (World.block_lt_of_cell? w _ hw125_0)).trans hw125_0), ((HB.out.cell (World.block_lt_of_cell? w _ hw126_0)).trans hw126_0)⟩ (fun hHeld => ?_); refine with_tabW longcaseref06_Decode.tab25 longcaseref06_Decode.bits25 (fun HT_ HW_ => ?_)
         generalize w71.drew = w73 at HO_113000 HO_113001 BK108 BK109 BK112 HB hx125_0 hx126_0 hHeld ⊢
         refine Sq.pv 0 145 1 HT_ ?_
         refine Sq.pv 1 146 3 HT_ ?_
         refine Sq.pv 2 147 7 HT_ ?_
         refine Sq.pv 3 148 15 HT_ ?_
         refine Sq.tv 4 149 31 HT_ HW_ hHeld ?_
         refine Sq.pv 5 150 63 HT_ ?_
         refine Sq.pv 6 151 127 HT_ ?_
         refine Sq.pv 7 152 255 HT_ ?_
         refine Sq.pv 8 153 511 HT_ ?_
         refine Sq.pv 9 154 1023 HT_ ?_
         refine Sq.pv 10 155 2047 HT_ ?_
         refine Sq.pv 13 158 10239 HT_ ?_
         refine Sq.tv 11 156 12287 HT_ HW_ hHeld ?_
         refine Sq.pv 12 157 16383 HT_ ?_
         refine Sq.tv 14 159 32767 HT_ HW_ hHeld ?_
         refine Sq.pv 15 160 65535 HT_ ?_
         refine Sq.pv 16 161 131071 HT_ ?_
         refine Sq.pv 17 162 262143 HT_ ?_
         refine Sq.nv 18 163 524287 HT_ ?_
         refine Sq.nv 19 164 1048575 HT_ ?_
         refine Sq.pv 20 165 2097151 HT_ ?_
         refine done_ (done_of HT_.out (by kernel_rfl)) ?_
         have hnb74 := NB109_112.out
         have hnc74 := NB112_109.out
         obtain ⟨hcz75_0, hcz75_1, hcz75_2, hcz75_3, hcz75_4⟩ := Sq.c5 BK109
         obtain ⟨hfz75_0, hfz75_1, hfz75_2, hfz75_3, hfz75_4⟩ := Sq.z5 BK109
         try go_wp2
         refine bodyPost_ret (results_ct rfl _ _ gb109 31 #[.slice none 0 0, .slice none 0 0, .slice none 0 0, .slice none 0 0, .slice none 0 0] (0, 0) _ rfl (by (with_reducible repeat (first | refine blk_drewN ?_ _ | refine blk_drew ?_ | refine blk_alloc ?_ _)); refine blk_put (cs := #[.slice none 0 0, .slice none 0 0, .slice none 0 0, .slice none 0 0, .slice none 0 0]) ?_ 4 _ rfl; (with_reducible repeat (first | refine blk_drewN ?_ _ | refine blk_drew ?_ | refine blk_alloc ?_ _)); refine blk_put (cs := #[.slice none 0 0, .slice none 0 0, .slice none 0 0, .slice none 0 0, .slice none 0 0]) ?_ 3 _ rfl; (with_reducible repeat (first | refine blk_drewN ?_ _ | refine blk_drew ?_ | refine blk_alloc ?_ _)); refine blk_put (cs := #[.slice none 0 0, .slice none 0 0, .slice none 0 0, .slice none 0 0, .slice none 0 0]) ?_ 2 _ rfl; (with_reducible repeat (first | refine blk_drewN ?_ _ | refine blk_drew ?_ | refine blk_alloc ?_ _)); refine blk_put (cs := #[.slice none 0 0, .slice none 0 0, .slice none 0 0, .slice none 0 0, .slice none 0 0]) ?_ 1 _ rfl; (with_reducible repeat (first | refine blk_drewN ?_ _ | refine blk_drew ?_ | refine blk_alloc ?_ _)); refine blk_put (cs := #[.slice none 0 0, .slice none 0 0, .slice none 0 0, .slice none 0 0, .slice none 0 0]) ?_ 0 _ rfl; exact Sq.kb BK109) Try.underlying31 rfl (by kernel_rfl)) rfl ?_
         exact ⟨_, _, _, _, _, by first | rfl | (simp [errW_none, errW_some] <;> rfl) | (simp only [← hji48, ← hji51, ← hji55]; first | rfl | (simp [errW_none, errW_some] <;> rfl)) | (simp [*, errW_none, errW_some] <;> rfl), by first | exact Kd.R_nil _ _ _ _ _ | exact Kd.N_nil _ _ _ _ _ | exact Kd.V_nil _ _ _ _ _ | exact Kd.Q_nil _ _ _ _ _ | exact Kd.S_nil _ _ _ _ _, by first | exact Kd.R_nil _ _ _ _ _ | exact Kd.N_nil _ _ _ _ _ | exact Kd.V_nil _ _ _ _ _ | exact Kd.Q_nil _ _ _ _ _ | exact Kd.S_nil _ _ _ _ _, by first | exact Kd.R_nil _ _ _ _ _ | exact Kd.N_nil _ _ _ _ _ | exact Kd.V_nil _ _ _ _ _ | exact Kd.Q_nil _ _ _ _ _ | exact Kd.S_nil _ _ _ _ _, by first | exact Kd.R_nil _ _ _ _ _ | exact Kd.N_nil _ _ _ _ _ | exact Kd.V_nil _ _ _ _ _ | exact Kd.Q_nil _ _ _ _ _ | exact Kd.S_nil _ _ _ _ _, by first | exact Kd.R_nil _ _ _ _ _ | exact Kd.N_nil _ _ _ _ _ | exact Kd.V_nil _ _ _ _ _ | exact Kd.Q_nil _ _ _ _ _ | exact Kd.S_nil _ _ _ _ _, by repeat (first | (with_reducible first | exact HB.out | apply below_alloc | apply pw_below_drewN | apply below_drew1 | refine below_set ?_ GE108.out | refine below_set ?_ GE109.out | refine below_set ?_ GE112.out) | exact HB.out)⟩
       rw [if_neg c67] at H
       have c67b0 : decide (a1_6 ≤ (wrap64 (rd l0 (ji51)))) = false := decide_eq_false c67
       clear c67
       by_cases c76 : t124 = true
       rotate_left
       ·
        replace c76 := Bool.eq_false_iff.mpr c76
        subst c76
        rw [if_neg (show ¬ (false = true) by decide)] at H
        simp only [Option.some.injEq, Prod.mk.injEq] at H
        obtain ⟨rfl, rfl, rfl, rfl, rfl, rfl⟩ := H
        have hnb88 := NB108_109.out
        have hnc88 := NB109_108.out
        have hnb89 := NB108_112.out
        have hnc89 := NB112_108.out
        obtain ⟨hcz90_0, hcz90_1, hcz90_2, hcz90_3, hcz90_4, hcz90_5, hcz90_6⟩ := Sq.c7 BK108
        obtain ⟨hfz90_0, hfz90_1, hfz90_2, hfz90_3, hfz90_4, hfz90_5, hfz90_6⟩ := Sq.z7 BK108
        as_aux_lemma =>
         try go_wp2_with (first | ((with_reducible refine gate_callee (f := 44) rfl ?_); refine goesL_ (some 127) rfl rfl Try.func44 (by kernel_rfl) rfl #[.slice A0 l0.length c0, .int .i64 (wrap64 ((wrap64 ((wrap64 (a1_4 * a2)) + a1_4)) + (wrap64 (6 * x20_3)))), .int .i64 4] rfl (by (try simp only [List.map_toArray, List.map_cons, List.map_nil]); first | done | rfl | (simp only [List.length_drop, List.length_take]; rfl)) ?_; (with_reducible refine (longcaseref04_Int.calls k3 _ _ l0 (wrap64 ((wrap64 ((wrap64 (a1_4 * a2)) + a1_4)) + (wrap64 (6 * x20_3)))) 4 t119 t120 _ ?side1 ?side2 A47.out).mono ?_); (case side1 => exact Sq.qd HR0 HB); (case side2 => exact HC0.out); rintro e w' ⟨rfl, ⟨nd, rfl⟩⟩; refine ⟨_, rfl, ?_⟩; (try (rw [drewN_self wr]; generalize hq_ : World.drewN wr _ = wr; have n0_ : Aside0 (Kd.R k56 56 wr w.heap.size (fun _ => True) u113000 x113000_3) := ⟨by rw [← hq_]; exact (kr HO_113000)⟩; have n1_ : Aside0 (Kd.R k54 54 wr w.heap.size (fun _ => True) u113001 x113001_2) := ⟨by rw [← hq_]; exact (kr HO_113001)⟩; have n2_ : Aside0 (wr.heap[gb108]? = some (.cells #[.int .i64 a1_0, .int .i64 a1_1, .int .i64 a1_2, .int .i64 a1_3, .int .i64 a1_4, .int .i64 a1_5, .int .i64 a1_6] 41 (0, 0))) := ⟨by rw [← hq_]; exact (kb BK108)⟩; have n3_ : Aside0 (wr.heap[gb109]? = some (.cells #[.slice none 0 0, .slice none 0 0, .slice none 0 0, .slice none 0 0, .slice none 0 0] 31 (0, 0))) := ⟨by rw [← hq_]; exact (kb BK109)⟩; have n4_ : Aside0 (wr.heap[gb112]? = some (.cells #[u113000, u113001, .slice none 0 0, .slice none 0 0, .slice none 0 0] 31 (0, 0))) := ⟨by rw [← hq_]; exact (kb BK112)⟩; have n5_ : Aside0 (Below w.heap.size w wr) := ⟨by rw [← hq_]; exact (Sq.kl3 HB GE108 GE109 GE112)⟩; clear HO_113000 HO_113001 BK108 BK109 BK112 HB hq_; have HO_113000 := n0_; have HO_113001 := n1_; have BK108 := n2_; have BK109 := n3_; have BK112 := n4_; have HB := n5_; clear n0_ n1_ n2_ n3_ n4_ n5_))))
         replace HO_113000 := Aside0.mk (Kd.R_drew HO_113000.out)
         replace HO_113001 := Aside0.mk (Kd.R_drew HO_113001.out)
         replace BK108 := Aside0.mk (blk_drew BK108.out)
         replace BK109 := Aside0.mk (blk_drew BK109.out)
         replace BK112 := Aside0.mk (blk_drew BK112.out)
         replace HB := Aside0.mk (below_drew1 HB.out)
         obtain ⟨i092, hi092, _, hsz92, _⟩ := info_parts info5
         obtain ⟨hcut92, hA92, hC92⟩ := print_take_of (P := Try.prog) (Value.int .u8) 0 33 5 .i64 Try.underlying33 hi092 hsz92 A0 c0 l0 (ji48) (of_decide_eq_true (by first | (with_reducible assumption) | assumption)) (of_decide_eq_true (by first | (with_reducible assumption) | assumption)) HC0.out
         have HR121 := Aside0.mk (Kd.C_of_reads (h1 := fun _ => rfl) (hA92 _ (Kd.reads_of_C HR0.out)))
         have HC121 := Aside0.mk hC92
         clear hA92 hC92 hi092 hsz92
         have p122 : 0 ≤ ((ji51) : Int) := of_decide_eq_true (by first | (with_reducible assumption) | assumption)
         have q122 : (ji51) < (l0.length : Int) := of_decide_eq_true (by first | (with_reducible assumption) | assumption)
         obtain ⟨ad122, e122, hx122_0⟩ := Kd.at_int HR0.out (ji51) p122 q122
         have hw122_0 := hx122_0
         cases e122
         replace hx122_0 := (HB.out.cell (World.block_lt_of_cell? w _ hx122_0)).trans hx122_0
         replace p122 := eq_true p122
         replace q122 := eq_true q122
         refine start_ (n := 17) (S := fun w' => w'.cell? (ad122.add ((ji51)).toNat) = some (.int .u8 (rd l0 (ji51)))) (ds := []) (Sq.bm 17 0) (by kernel_rfl) rfl (by kernel_rfl) (((HB.out.cell (World.block_lt_of_cell? w _ hw122_0)).trans hw122_0)) (fun hHeld => ?_); refine with_tabW longcaseref06_Decode.tab24 longcaseref06_Decode.bits24 (fun HT_ HW_ => ?_)
         generalize wr.drew = w91 at HO_113000 HO_113001 BK108 BK109 BK112 HB HR121 hx122_0 hHeld ⊢
         refine Sq.pv 0 131 1 HT_ ?_
         refine Sq.pv 1 132 3 HT_ ?_
         refine Sq.pv 2 133 7 HT_ ?_
         refine Sq.pv 3 134 15 HT_ ?_
         refine Sq.pv 4 135 31 HT_ ?_
         refine Sq.pv 5 136 63 HT_ ?_
         refine Sq.pv 6 137 127 HT_ ?_
         refine Sq.pv 7 138 255 HT_ ?_
         refine take_ (i := 8) (N := some 139) (v := ?_) (a' := ?_) (bm 17 511) rfl rfl (take_ofW HT_.out HW_.out (by kernel_rfl)) (fun _ _ _ h => h) (Or.inl ⟨by rfl, ?_⟩) hHeld ?_ ?_
         rotate_left
         ·
          intro w' s0
          go_simp
          with_reducible rfl
         rotate_left
         ·
          simp only [Act.put, List.setIfInBounds_toArray, List.set_cons_zero, List.set_cons_succ, i64_w, i32_w]
          rfl
         refine Sq.pv 9 140 1023 HT_ ?_
         refine Sq.pv 10 141 2047 HT_ ?_
         refine one_ (i := 11) (N := some 142) (bm 17 4095) rfl rfl (one_of HT_.out (by kernel_rfl)) (by decide) (fun K hK => ?_)
         refine goes_ Try.func45 (by kernel_rfl) rfl #[.slice (some ad122) (l0.take ((ji48) : Int).toNat).length c0, .int .i64 (wrap64 ((wrap64 ((wrap64 ((wrap64 (a1_4 * a2)) + a1_4)) + (wrap64 (6 * a1_5)))) + (wrap64 (rd l0 (ji51)))))] (by rfl) rfl rfl (by (try simp only [List.map_toArray, List.map_cons, List.map_nil]); first | done | (rw [show (l0.take ((ji48) : Int).toNat).length = (ji48).toNat from (by rw [List.length_take]; first | (have h_ : ((ji48) : Int) ≤ (l0.length : Int) := of_decide_eq_true (by first | (with_reducible assumption) | assumption); omega) | (have h_ := hji48_; (repeat' split at h_) <;> omega))] <;> rfl) | (simp only [hji48, hji51]; rfl) | rfl | (simp only [List.length_drop, List.length_take]; rfl)) ?_
         with_reducible refine (longcaseref04_Name.calls k3 _ _ (l0.take ((ji48) : Int).toNat) (wrap64 ((wrap64 ((wrap64 ((wrap64 (a1_4 * a2)) + a1_4)) + (wrap64 (6 * a1_5)))) + (wrap64 (rd l0 (ji51))))) t123 false _ ?side1 ?side2 A54.out).mono ?_
         (case side1 => exact Sq.qd HR121 HB)
         (case side2 => exact HC121.out)
         rintro e w' ⟨rfl, ⟨nd, rfl⟩⟩
         refine ⟨_, rfl, ?_⟩
         refine hK.out _ _ (((HB.out.cell (World.block_lt_of_cell? w _ hw122_0)).trans hw122_0)) (fun hHeld => ?_)
         clear hK K
         refine norm_ (a' := ?_) ?_ ?_
         rotate_left
         ·
          show Act.put _ (some 142) _ = _
          simp only [Act.put, List.setIfInBounds_toArray, List.set_cons_zero, List.set_cons_succ, i64_w, i32_w]
          rfl
         refine Sq.pv 12 130 8191 HT_ ?_
         refine Sq.pv 13 143 16383 HT_ ?_
         refine Sq.pv 14 144 32767 HT_ ?_
         refine Sq.pv 15 24 65535 HT_ ?_
         refine Sq.pv 16 25 131071 HT_ ?_
         refine done_ (done_of HT_.out (by kernel_rfl)) ?_
         try go_wp2
         (try (rw [drewN_self w91]; generalize hq_ : World.drewN w91 _ = w91; have n0_ : Aside0 (Kd.R k56 56 w91 w.heap.size (fun _ => True) u113000 x113000_3) := ⟨by rw [← hq_]; exact (kr HO_113000)⟩; have n1_ : Aside0 (Kd.R k54 54 w91 w.heap.size (fun _ => True) u113001 x113001_2) := ⟨by rw [← hq_]; exact (kr HO_113001)⟩; have n2_ : Aside0 (w91.heap[gb108]? = some (.cells #[.int .i64 a1_0, .int .i64 a1_1, .int .i64 a1_2, .int .i64 a1_3, .int .i64 a1_4, .int .i64 a1_5, .int .i64 a1_6] 41 (0, 0))) := ⟨by rw [← hq_]; exact (kb BK108)⟩; have n3_ : Aside0 (w91.heap[gb109]? = some (.cells #[.slice none 0 0, .slice none 0 0, .slice none 0 0, .slice none 0 0, .slice none 0 0] 31 (0, 0))) := ⟨by rw [← hq_]; exact (kb BK109)⟩; have n4_ : Aside0 (w91.heap[gb112]? = some (.cells #[u113000, u113001, .slice none 0 0, .slice none 0 0, .slice none 0 0] 31 (0, 0))) := ⟨by rw [← hq_]; exact (kb BK112)⟩; have n5_ : Aside0 (Below w.heap.size w w91) := ⟨by rw [← hq_]; exact (Sq.kl3 HB GE108 GE109 GE112)⟩; clear HO_113000 HO_113001 BK108 BK109 BK112 HB hq_; have HO_113000 := n0_; have HO_113001 := n1_; have BK108 := n2_; have BK109 := n3_; have BK112 := n4_; have HB := n5_; clear n0_ n1_ n2_ n3_ n4_ n5_))
         replace HO_113000 := Aside0.mk (Kd.R_drew HO_113000.out)
         replace HO_113001 := Aside0.mk (Kd.R_drew HO_113001.out)
         replace BK108 := Aside0.mk (blk_drew BK108.out)
         replace BK109 := Aside0.mk (blk_drew BK109.out)
         replace BK112 := Aside0.mk (blk_drew BK112.out)
         replace HB := Aside0.mk (below_drew1 HB.out)
         have p125 : 0 ≤ ((ji55) : Int) := of_decide_eq_true (by first | (with_reducible assumption) | assumption)
         have q125 : (ji55) < (l0.length : Int) := of_decide_eq_true (by first | (with_reducible assumption) | assumption)
         obtain ⟨ad125, e125, hx125_0⟩ := Kd.at_int HR0.out (ji55) p125 q125
         have hw125_0 := hx125_0
         obtain rfl : ad122 = ad125 := (by injection e125)
         replace hx125_0 := (HB.out.cell (World.block_lt_of_cell? w _ hx125_0)).trans hx125_0
         replace p125 := eq_true p125
         replace q125 := eq_true q125
         have p126 : 0 ≤ ((ji51) : Int) := of_decide_eq_true (by first | (with_reducible assumption) | assumption)
         have q126 : (ji51) < (l0.length : Int) := of_decide_eq_true (by first | (with_reducible assumption) | assumption)
         obtain ⟨ad126, e126, hx126_0⟩ := Kd.at_int HR0.out (ji51) p126 q126
         have hw126_0 := hx126_0
         obtain rfl : ad122 = ad126 := (by injection e126)
         replace hx126_0 := (HB.out.cell (World.block_lt_of_cell? w _ hx126_0)).trans hx126_0
         replace p126 := eq_true p126
         replace q126 := eq_true q126
         refine start_ (n := 21) (S := fun w' => w'.cell? ⟨gb108, 0, none⟩ = some (.int .i64 a1_0) ∧ w'.cell? ⟨gb108, 1, none⟩ = some (.int .i64 a1_1) ∧ w'.cell? ⟨gb108, 2, none⟩ = some (.int .i64 a1_2) ∧ w'.cell? ⟨gb108, 3, none⟩ = some (.int .i64 a1_3) ∧ w'.cell? ⟨gb108, 4, none⟩ = some (.int .i64 a1_4) ∧ w'.cell? ⟨gb108, 5, none⟩ = some (.int .i64 a1_5) ∧ w'.cell? ⟨gb108, 6, none⟩ = some (.int .i64 a1_6) ∧ w'.cell? (ad122.add ((ji55)).toNat) = some (.int .u8 (rd l0 (ji55))) ∧ w'.cell? (ad122.add ((ji51)).toNat) = some (.int .u8 (rd l0 (ji51)))) (ds := []) (Sq.bm 21 0) (by kernel_rfl) rfl (by kernel_rfl) ⟨(blk_cell BK108.out 0).trans rfl, (blk_cell BK108.out 1).trans rfl, (blk_cell BK108.out 2).trans rfl, (blk_cell BK108.out 3).trans rfl, (blk_cell BK108.out 4).trans rfl, (blk_cell BK108.out 5).trans rfl, (blk_cell BK108.out 6).trans rfl, ((HB.out.cell (World.block_lt_of_cell? w _ hw125_0)).trans hw125_0), ((HB.out.cell (World.block_lt_of_cell? w _ hw126_0)).trans hw126_0)⟩ (fun hHeld => ?_); refine with_tabW longcaseref06_Decode.tab25 longcaseref06_Decode.bits25 (fun HT_ HW_ => ?_)
         generalize w91.drew = w93 at HO_113000 HO_113001 BK108 BK109 BK112 HB hx125_0 hx126_0 hHeld ⊢
         refine Sq.pv 0 145 1 HT_ ?_
         refine Sq.pv 1 146 3 HT_ ?_
         refine Sq.pv 2 147 7 HT_ ?_
         refine Sq.pv 3 148 15 HT_ ?_
         refine Sq.tv 4 149 31 HT_ HW_ hHeld ?_
         refine Sq.pv 5 150 63 HT_ ?_
         refine Sq.pv 6 151 127 HT_ ?_
         refine Sq.pv 7 152 255 HT_ ?_
         refine Sq.pv 8 153 511 HT_ ?_
         refine Sq.pv 9 154 1023 HT_ ?_
         refine Sq.pv 10 155 2047 HT_ ?_
         refine Sq.pv 13 158 10239 HT_ ?_
         refine Sq.tv 11 156 12287 HT_ HW_ hHeld ?_
         refine Sq.pv 12 157 16383 HT_ ?_
         refine Sq.tv 14 159 32767 HT_ HW_ hHeld ?_
         refine Sq.pv 15 160 65535 HT_ ?_
         refine Sq.pv 16 161 131071 HT_ ?_
         refine Sq.pv 17 162 262143 HT_ ?_
         refine Sq.pv 18 163 524287 HT_ ?_
         refine Sq.pv 19 164 1048575 HT_ ?_
         refine Sq.pv 20 165 2097151 HT_ ?_
         refine done_ (done_of HT_.out (by kernel_rfl)) ?_
         have hnb94 := NB109_112.out
         have hnc94 := NB112_109.out
         obtain ⟨hcz95_0, hcz95_1, hcz95_2, hcz95_3, hcz95_4⟩ := Sq.c5 BK109
         obtain ⟨hfz95_0, hfz95_1, hfz95_2, hfz95_3, hfz95_4⟩ := Sq.z5 BK109
         try go_wp2
         refine bodyPost_ret (results_ct rfl _ _ gb109 31 #[.slice none 0 0, .slice none 0 0, .slice none 0 0, .slice none 0 0, .slice none 0 0] (0, 0) _ rfl (by (with_reducible repeat (first | refine blk_drewN ?_ _ | refine blk_drew ?_ | refine blk_alloc ?_ _)); refine blk_put (cs := #[.slice none 0 0, .slice none 0 0, .slice none 0 0, .slice none 0 0, .slice none 0 0]) ?_ 4 _ rfl; (with_reducible repeat (first | refine blk_drewN ?_ _ | refine blk_drew ?_ | refine blk_alloc ?_ _)); refine blk_put (cs := #[.slice none 0 0, .slice none 0 0, .slice none 0 0, .slice none 0 0, .slice none 0 0]) ?_ 3 _ rfl; (with_reducible repeat (first | refine blk_drewN ?_ _ | refine blk_drew ?_ | refine blk_alloc ?_ _)); refine blk_put (cs := #[.slice none 0 0, .slice none 0 0, .slice none 0 0, .slice none 0 0, .slice none 0 0]) ?_ 2 _ rfl; (with_reducible repeat (first | refine blk_drewN ?_ _ | refine blk_drew ?_ | refine blk_alloc ?_ _)); refine blk_put (cs := #[.slice none 0 0, .slice none 0 0, .slice none 0 0, .slice none 0 0, .slice none 0 0]) ?_ 1 _ rfl; (with_reducible repeat (first | refine blk_drewN ?_ _ | refine blk_drew ?_ | refine blk_alloc ?_ _)); refine blk_put (cs := #[.slice none 0 0, .slice none 0 0, .slice none 0 0, .slice none 0 0, .slice none 0 0]) ?_ 0 _ rfl; exact Sq.kb BK109) Try.underlying31 rfl (by kernel_rfl)) rfl ?_
         exact ⟨_, _, _, _, _, by first | rfl | (simp [errW_none, errW_some] <;> rfl) | (simp only [← hji48, ← hji51, ← hji55]; first | rfl | (simp [errW_none, errW_some] <;> rfl)) | (simp [*, errW_none, errW_some] <;> rfl), by first | exact Kd.R_nil _ _ _ _ _ | exact Kd.N_nil _ _ _ _ _ | exact Kd.V_nil _ _ _ _ _ | exact Kd.Q_nil _ _ _ _ _ | exact Kd.S_nil _ _ _ _ _, by first | exact Kd.R_nil _ _ _ _ _ | exact Kd.N_nil _ _ _ _ _ | exact Kd.V_nil _ _ _ _ _ | exact Kd.Q_nil _ _ _ _ _ | exact Kd.S_nil _ _ _ _ _, by first | exact Kd.R_nil _ _ _ _ _ | exact Kd.N_nil _ _ _ _ _ | exact Kd.V_nil _ _ _ _ _ | exact Kd.Q_nil _ _ _ _ _ | exact Kd.S_nil _ _ _ _ _, by first | exact Kd.R_nil _ _ _ _ _ | exact Kd.N_nil _ _ _ _ _ | exact Kd.V_nil _ _ _ _ _ | exact Kd.Q_nil _ _ _ _ _ | exact Kd.S_nil _ _ _ _ _, by first | exact Kd.R_nil _ _ _ _ _ | exact Kd.N_nil _ _ _ _ _ | exact Kd.V_nil _ _ _ _ _ | exact Kd.Q_nil _ _ _ _ _ | exact Kd.S_nil _ _ _ _ _, by repeat (first | (with_reducible first | exact HB.out | apply below_alloc | apply pw_below_drewN | apply below_drew1 | refine below_set ?_ GE108.out | refine below_set ?_ GE109.out | refine below_set ?_ GE112.out) | exact HB.out)⟩
       subst c76
       rw [if_pos rfl] at H
       by_cases c77 : x113000_3.length < 4398046511104
       rotate_left
       ·
        rw [if_neg c77] at H
        exact absurd H (by simp)
       rw [if_pos c77] at H
       have LMc77 := Aside0.mk c77
       clear c77
       obtain ⟨y128, hy128⟩ : ∃ y_ : List (S56), y_ = (x113000_3 ++ [(⟨t119, ((rd l0 (ji55)) == 1), t123⟩ : S56)]) := ⟨_, rfl⟩
       replace H : (longcaseref06_Decode.l1 k3 l0 a2 (wrap64 ((wrap64 (a1_4 * a2)) + a1_4)) (wrap64 ((wrap64 ((wrap64 (a1_4 * a2)) + a1_4)) + (wrap64 (6 * a1_5)))) (ji48) (wrap64 ((ji48) + (wrap64 (a1_3 * (wrap64 (a2 + 4)))))) (wrap64 ((wrap64 ((ji48) + (wrap64 (a1_3 * (wrap64 (a2 + 4)))))) + a1_2)) (wrap64 (x20_3 + 1)) a1_0 a1_1 a1_2 a1_3 a1_4 a1_5 a1_6 y128 x113001_2) = some (r1, r2, r3, r4, r5, r6) := by first | (rw [hy128]; with_reducible exact H) | (have H2_ := (Option.bind_some _ _).symm.trans H; rw [hy128]; with_reducible exact H2_) | (have H2_ := (Option.bind_some _ _).symm.trans H; with_reducible exact H2_) | with_reducible exact H | (rw [hy128]; exact H) | exact H
       have Ny128 := Aside0.mk hy128
       clear hy128
       have H' := Aside0.mk H
       clear H
       have hnb78 := NB108_109.out
       have hnc78 := NB109_108.out
       have hnb79 := NB108_112.out
       have hnc79 := NB112_108.out
       obtain ⟨hcz80_0, hcz80_1, hcz80_2, hcz80_3, hcz80_4, hcz80_5, hcz80_6⟩ := Sq.c7 BK108
       obtain ⟨hfz80_0, hfz80_1, hfz80_2, hfz80_3, hfz80_4, hfz80_5, hfz80_6⟩ := Sq.z7 BK108
       as_aux_lemma =>
        try go_wp2_with (first | ((with_reducible refine gate_callee (f := 44) rfl ?_); refine goesL_ (some 127) rfl rfl Try.func44 (by kernel_rfl) rfl #[.slice A0 l0.length c0, .int .i64 (wrap64 ((wrap64 ((wrap64 (a1_4 * a2)) + a1_4)) + (wrap64 (6 * x20_3)))), .int .i64 4] rfl (by (try simp only [List.map_toArray, List.map_cons, List.map_nil]); first | done | rfl | (simp only [List.length_drop, List.length_take]; rfl)) ?_; (with_reducible refine (longcaseref04_Int.calls k3 _ _ l0 (wrap64 ((wrap64 ((wrap64 (a1_4 * a2)) + a1_4)) + (wrap64 (6 * x20_3)))) 4 t119 t120 _ ?side1 ?side2 A47.out).mono ?_); (case side1 => exact Sq.qd HR0 HB); (case side2 => exact HC0.out); rintro e w' ⟨rfl, ⟨nd, rfl⟩⟩; refine ⟨_, rfl, ?_⟩; (try (rw [drewN_self wr]; generalize hq_ : World.drewN wr _ = wr; have n0_ : Aside0 (Kd.R k56 56 wr w.heap.size (fun _ => True) u113000 x113000_3) := ⟨by rw [← hq_]; exact (kr HO_113000)⟩; have n1_ : Aside0 (Kd.R k54 54 wr w.heap.size (fun _ => True) u113001 x113001_2) := ⟨by rw [← hq_]; exact (kr HO_113001)⟩; have n2_ : Aside0 (wr.heap[gb108]? = some (.cells #[.int .i64 a1_0, .int .i64 a1_1, .int .i64 a1_2, .int .i64 a1_3, .int .i64 a1_4, .int .i64 a1_5, .int .i64 a1_6] 41 (0, 0))) := ⟨by rw [← hq_]; exact (kb BK108)⟩; have n3_ : Aside0 (wr.heap[gb109]? = some (.cells #[.slice none 0 0, .slice none 0 0, .slice none 0 0, .slice none 0 0, .slice none 0 0] 31 (0, 0))) := ⟨by rw [← hq_]; exact (kb BK109)⟩; have n4_ : Aside0 (wr.heap[gb112]? = some (.cells #[u113000, u113001, .slice none 0 0, .slice none 0 0, .slice none 0 0] 31 (0, 0))) := ⟨by rw [← hq_]; exact (kb BK112)⟩; have n5_ : Aside0 (Below w.heap.size w wr) := ⟨by rw [← hq_]; exact (Sq.kl3 HB GE108 GE109 GE112)⟩; clear HO_113000 HO_113001 BK108 BK109 BK112 HB hq_; have HO_113000 := n0_; have HO_113001 := n1_; have BK108 := n2_; have BK109 := n3_; have BK112 := n4_; have HB := n5_; clear n0_ n1_ n2_ n3_ n4_ n5_))))
        replace HO_113000 := Aside0.mk (Kd.R_drew HO_113000.out)
        replace HO_113001 := Aside0.mk (Kd.R_drew HO_113001.out)
        replace BK108 := Aside0.mk (blk_drew BK108.out)
        replace BK109 := Aside0.mk (blk_drew BK109.out)
        replace BK112 := Aside0.mk (blk_drew BK112.out)
        replace HB := Aside0.mk (below_drew1 HB.out)
        obtain ⟨i082, hi082, _, hsz82, _⟩ := info_parts info5
        obtain ⟨hcut82, hA82, hC82⟩ := print_take_of (P := Try.prog) (Value.int .u8) 0 33 5 .i64 Try.underlying33 hi082 hsz82 A0 c0 l0 (ji48) (of_decide_eq_true (by first | (with_reducible assumption) | assumption)) (of_decide_eq_true (by first | (with_reducible assumption) | assumption)) HC0.out
        have HR121 := Aside0.mk (Kd.C_of_reads (h1 := fun _ => rfl) (hA82 _ (Kd.reads_of_C HR0.out)))
        have HC121 := Aside0.mk hC82
        clear hA82 hC82 hi082 hsz82
        have p122 : 0 ≤ ((ji51) : Int) := of_decide_eq_true (by first | (with_reducible assumption) | assumption)
        have q122 : (ji51) < (l0.length : Int) := of_decide_eq_true (by first | (with_reducible assumption) | assumption)
        obtain ⟨ad122, e122, hx122_0⟩ := Kd.at_int HR0.out (ji51) p122 q122
        have hw122_0 := hx122_0
        cases e122
        replace hx122_0 := (HB.out.cell (World.block_lt_of_cell? w _ hx122_0)).trans hx122_0
        replace p122 := eq_true p122
        replace q122 := eq_true q122
        refine start_ (n := 17) (S := fun w' => w'.cell? (ad122.add ((ji51)).toNat) = some (.int .u8 (rd l0 (ji51)))) (ds := []) (Sq.bm 17 0) (by kernel_rfl) rfl (by kernel_rfl) (((HB.out.cell (World.block_lt_of_cell? w _ hw122_0)).trans hw122_0)) (fun hHeld => ?_); refine with_tabW longcaseref06_Decode.tab24 longcaseref06_Decode.bits24 (fun HT_ HW_ => ?_)
        generalize wr.drew = w81 at HO_113000 HO_113001 BK108 BK109 BK112 HB HR121 hx122_0 hHeld ⊢
        refine Sq.pv 0 131 1 HT_ ?_
        refine Sq.pv 1 132 3 HT_ ?_
        refine Sq.pv 2 133 7 HT_ ?_
        refine Sq.pv 3 134 15 HT_ ?_
        refine Sq.pv 4 135 31 HT_ ?_
        refine Sq.pv 5 136 63 HT_ ?_
        refine Sq.pv 6 137 127 HT_ ?_
        refine Sq.pv 7 138 255 HT_ ?_
        refine take_ (i := 8) (N := some 139) (v := ?_) (a' := ?_) (bm 17 511) rfl rfl (take_ofW HT_.out HW_.out (by kernel_rfl)) (fun _ _ _ h => h) (Or.inl ⟨by rfl, ?_⟩) hHeld ?_ ?_
        rotate_left
        ·
         intro w' s0
         go_simp
         with_reducible rfl
        rotate_left
        ·
         simp only [Act.put, List.setIfInBounds_toArray, List.set_cons_zero, List.set_cons_succ, i64_w, i32_w]
         rfl
        refine Sq.pv 9 140 1023 HT_ ?_
        refine Sq.pv 10 141 2047 HT_ ?_
        refine one_ (i := 11) (N := some 142) (bm 17 4095) rfl rfl (one_of HT_.out (by kernel_rfl)) (by decide) (fun K hK => ?_)
        refine goes_ Try.func45 (by kernel_rfl) rfl #[.slice (some ad122) (l0.take ((ji48) : Int).toNat).length c0, .int .i64 (wrap64 ((wrap64 ((wrap64 ((wrap64 (a1_4 * a2)) + a1_4)) + (wrap64 (6 * a1_5)))) + (wrap64 (rd l0 (ji51)))))] (by rfl) rfl rfl (by (try simp only [List.map_toArray, List.map_cons, List.map_nil]); first | done | (rw [show (l0.take ((ji48) : Int).toNat).length = (ji48).toNat from (by rw [List.length_take]; first | (have h_ : ((ji48) : Int) ≤ (l0.length : Int) := of_decide_eq_true (by first | (with_reducible assumption) | assumption); omega) | (have h_ := hji48_; (repeat' split at h_) <;> omega))] <;> rfl) | (simp only [hji48, hji51]; rfl) | rfl | (simp only [List.length_drop, List.length_take]; rfl)) ?_
        with_reducible refine (longcaseref04_Name.calls k3 _ _ (l0.take ((ji48) : Int).toNat) (wrap64 ((wrap64 ((wrap64 ((wrap64 (a1_4 * a2)) + a1_4)) + (wrap64 (6 * a1_5)))) + (wrap64 (rd l0 (ji51))))) t123 true _ ?side1 ?side2 A54.out).mono ?_
        (case side1 => exact Sq.qd HR121 HB)
        (case side2 => exact HC121.out)
        rintro e w' ⟨rfl, ⟨nd, rfl⟩⟩
        refine ⟨_, rfl, ?_⟩
        refine hK.out _ _ (((HB.out.cell (World.block_lt_of_cell? w _ hw122_0)).trans hw122_0)) (fun hHeld => ?_)
        clear hK K
        refine norm_ (a' := ?_) ?_ ?_
        rotate_left
        ·
         show Act.put _ (some 142) _ = _
         simp only [Act.put, List.setIfInBounds_toArray, List.set_cons_zero, List.set_cons_succ, i64_w, i32_w]
         rfl
        refine Sq.pv 12 130 8191 HT_ ?_
        refine Sq.pv 13 143 16383 HT_ ?_
        refine Sq.pv 14 144 32767 HT_ ?_
        refine Sq.pv 15 24 65535 HT_ ?_
        refine Sq.pv 16 25 131071 HT_ ?_
        refine done_ (done_of HT_.out (by kernel_rfl)) ?_
        try go_wp2
        (try (rw [drewN_self w81]; generalize hq_ : World.drewN w81 _ = w81; have n0_ : Aside0 (Kd.R k56 56 w81 w.heap.size (fun _ => True) u113000 x113000_3) := ⟨by rw [← hq_]; exact (kr HO_113000)⟩; have n1_ : Aside0 (Kd.R k54 54 w81 w.heap.size (fun _ => True) u113001 x113001_2) := ⟨by rw [← hq_]; exact (kr HO_113001)⟩; have n2_ : Aside0 (w81.heap[gb108]? = some (.cells #[.int .i64 a1_0, .int .i64 a1_1, .int .i64 a1_2, .int .i64 a1_3, .int .i64 a1_4, .int .i64 a1_5, .int .i64 a1_6] 41 (0, 0))) := ⟨by rw [← hq_]; exact (kb BK108)⟩; have n3_ : Aside0 (w81.heap[gb109]? = some (.cells #[.slice none 0 0, .slice none 0 0, .slice none 0 0, .slice none 0 0, .slice none 0 0] 31 (0, 0))) := ⟨by rw [← hq_]; exact (kb BK109)⟩; have n4_ : Aside0 (w81.heap[gb112]? = some (.cells #[u113000, u113001, .slice none 0 0, .slice none 0 0, .slice none 0 0] 31 (0, 0))) := ⟨by rw [← hq_]; exact (kb BK112)⟩; have n5_ : Aside0 (Below w.heap.size w w81) := ⟨by rw [← hq_]; exact (Sq.kl3 HB GE108 GE109 GE112)⟩; clear HO_113000 HO_113001 BK108 BK109 BK112 HB hq_; have HO_113000 := n0_; have HO_113001 := n1_; have BK108 := n2_; have BK109 := n3_; have BK112 := n4_; have HB := n5_; clear n0_ n1_ n2_ n3_ n4_ n5_))
        replace HO_113000 := Aside0.mk (Kd.R_drew HO_113000.out)
        replace HO_113001 := Aside0.mk (Kd.R_drew HO_113001.out)
        replace BK108 := Aside0.mk (blk_drew BK108.out)
        replace BK109 := Aside0.mk (blk_drew BK109.out)
        replace BK112 := Aside0.mk (blk_drew BK112.out)
        replace HB := Aside0.mk (below_drew1 HB.out)
        have p125 : 0 ≤ ((ji55) : Int) := of_decide_eq_true (by first | (with_reducible assumption) | assumption)
        have q125 : (ji55) < (l0.length : Int) := of_decide_eq_true (by first | (with_reducible assumption) | assumption)
        obtain ⟨ad125, e125, hx125_0⟩ := Kd.at_int HR0.out (ji55) p125 q125
        have hw125_0 := hx125_0
        obtain rfl : ad122 = ad125 := (by injection e125)
        replace hx125_0 := (HB.out.cell (World.block_lt_of_cell? w _ hx125_0)).trans hx125_0
        replace p125 := eq_true p125
        replace q125 := eq_true q125
        have p126 : 0 ≤ ((ji51) : Int) := of_decide_eq_true (by first | (with_reducible assumption) | assumption)
        have q126 : (ji51) < (l0.length : Int) := of_decide_eq_true (by first | (with_reducible assumption) | assumption)
        obtain ⟨ad126, e126, hx126_0⟩ := Kd.at_int HR0.out (ji51) p126 q126
        have hw126_0 := hx126_0
        obtain rfl : ad122 = ad126 := (by injection e126)
        replace hx126_0 := (HB.out.cell (World.block_lt_of_cell? w _ hx126_0)).trans hx126_0
        replace p126 := eq_true p126
        replace q126 := eq_true q126
        refine start_ (n := 21) (S := fun w' => w'.cell? ⟨gb108, 0, none⟩ = some (.int .i64 a1_0) ∧ w'.cell? ⟨gb108, 1, none⟩ = some (.int .i64 a1_1) ∧ w'.cell? ⟨gb108, 2, none⟩ = some (.int .i64 a1_2) ∧ w'.cell? ⟨gb108, 3, none⟩ = some (.int .i64 a1_3) ∧ w'.cell? ⟨gb108, 4, none⟩ = some (.int .i64 a1_4) ∧ w'.cell? ⟨gb108, 5, none⟩ = some (.int .i64 a1_5) ∧ w'.cell? ⟨gb108, 6, none⟩ = some (.int .i64 a1_6) ∧ w'.cell? (ad122.add ((ji55)).toNat) = some (.int .u8 (rd l0 (ji55))) ∧ w'.cell? (ad122.add ((ji51)).toNat) = some (.int .u8 (rd l0 (ji51)))) (ds := []) (Sq.bm 21 0) (by kernel_rfl) rfl (by kernel_rfl) ⟨(blk_cell BK108.out 0).trans rfl, (blk_cell BK108.out 1).trans rfl, (blk_cell BK108.out 2).trans rfl, (blk_cell BK108.out 3).trans rfl, (blk_cell BK108.out 4).trans rfl, (blk_cell BK108.out 5).trans rfl, (blk_cell BK108.out 6).trans rfl, ((HB.out.cell (World.block_lt_of_cell? w _ hw125_0)).trans hw125_0), ((HB.out.cell (World.block_lt_of_cell? w _ hw126_0)).trans hw126_0)⟩ (fun hHeld => ?_); refine with_tabW longcaseref06_Decode.tab25 longcaseref06_Decode.bits25 (fun HT_ HW_ => ?_)
        generalize w81.drew = w83 at HO_113000 HO_113001 BK108 BK109 BK112 HB hx125_0 hx126_0 hHeld ⊢
        refine Sq.pv 0 145 1 HT_ ?_
        refine Sq.pv 1 146 3 HT_ ?_
        refine Sq.pv 2 147 7 HT_ ?_
        refine Sq.pv 3 148 15 HT_ ?_
        refine Sq.tv 4 149 31 HT_ HW_ hHeld ?_
        refine Sq.pv 5 150 63 HT_ ?_
        refine Sq.pv 6 151 127 HT_ ?_
        refine Sq.pv 7 152 255 HT_ ?_
        refine Sq.pv 8 153 511 HT_ ?_
        refine Sq.pv 9 154 1023 HT_ ?_
        refine Sq.pv 10 155 2047 HT_ ?_
        refine Sq.pv 13 158 10239 HT_ ?_
        refine Sq.tv 11 156 12287 HT_ HW_ hHeld ?_
        refine Sq.pv 12 157 16383 HT_ ?_
        refine Sq.tv 14 159 32767 HT_ HW_ hHeld ?_
        refine Sq.pv 15 160 65535 HT_ ?_
        refine Sq.pv 16 161 131071 HT_ ?_
        refine Sq.pv 17 162 262143 HT_ ?_
        refine Sq.pv 18 163 524287 HT_ ?_
        refine Sq.pv 19 164 1048575 HT_ ?_
        refine Sq.pv 20 165 2097151 HT_ ?_
        refine done_ (done_of HT_.out (by kernel_rfl)) ?_
        try go_wp2
        replace HO_113000 := Aside0.mk (Kd.R_drew HO_113000.out)
        replace HO_113001 := Aside0.mk (Kd.R_drew HO_113001.out)
        replace BK108 := Aside0.mk (blk_drew BK108.out)
        replace BK109 := Aside0.mk (blk_drew BK109.out)
        replace BK112 := Aside0.mk (blk_drew BK112.out)
        replace HB := Aside0.mk (below_drew1 HB.out)
        have p127 : 0 ≤ ((ji55) : Int) := of_decide_eq_true (by first | (with_reducible assumption) | assumption)
        have q127 : (ji55) < (l0.length : Int) := of_decide_eq_true (by first | (with_reducible assumption) | assumption)
        obtain ⟨ad127, e127, hx127_0⟩ := Kd.at_int HR0.out (ji55) p127 q127
        have hw127_0 := hx127_0
        obtain rfl : ad122 = ad127 := (by injection e127)
        replace hx127_0 := (HB.out.cell (World.block_lt_of_cell? w _ hx127_0)).trans hx127_0
        replace p127 := eq_true p127
        replace q127 := eq_true q127
        refine start_ (n := 15) (S := fun w' => w'.cell? ⟨gb112, 0, none⟩ = some (u113000) ∧ w'.cell? ⟨gb112, 1, none⟩ = some (u113001) ∧ w'.cell? ⟨gb112, 2, none⟩ = some (.slice none 0 0) ∧ w'.cell? ⟨gb112, 3, none⟩ = some (.slice none 0 0) ∧ w'.cell? ⟨gb112, 4, none⟩ = some (.slice none 0 0) ∧ w'.cell? (ad122.add ((ji55)).toNat) = some (.int .u8 (rd l0 (ji55)))) (ds := [14]) (Sq.bm 15 0) (by kernel_rfl) rfl (by kernel_rfl) ⟨(blk_cell BK112.out 0).trans rfl, (blk_cell BK112.out 1).trans rfl, (blk_cell BK112.out 2).trans rfl, (blk_cell BK112.out 3).trans rfl, (blk_cell BK112.out 4).trans rfl, ((HB.out.cell (World.block_lt_of_cell? w _ hw127_0)).trans hw127_0)⟩ (fun hHeld => ?_); refine with_tabW longcaseref06_Decode.tab27 longcaseref06_Decode.bits27 (fun HT_ HW_ => ?_)
        generalize w83.drew = w84 at HO_113000 HO_113001 BK108 BK109 BK112 HB hx127_0 hHeld ⊢
        refine Sq.pv 0 167 1 HT_ ?_
        refine Sq.pv 2 169 5 HT_ ?_
        refine Sq.pv 3 170 13 HT_ ?_
        refine Sq.pv 4 171 29 HT_ ?_
        refine Sq.pv 5 172 61 HT_ ?_
        refine Sq.pv 6 173 125 HT_ ?_
        refine Sq.pv 9 176 637 HT_ ?_
        refine Sq.tv 1 168 639 HT_ HW_ hHeld ?_
        refine Sq.tv 7 174 767 HT_ HW_ hHeld ?_
        refine Sq.pv 8 175 1023 HT_ ?_
        refine Sq.pv 10 177 2047 HT_ ?_
        refine one_ (i := 11) (N := some 178) (bm 15 4095) rfl rfl (one_of HT_.out (by kernel_rfl)) (by decide) (fun K hK => ?_)
        refine value_ (w1 := ?_) (v := ?_) (by rfl) rfl ?_ ?_
        rotate_left 2
        ·
         go_simp
         constructor
         ·
          rfl
         rfl
        refine hK.out _ _ ⟨(blk_cell (blk_alloc BK112.out _) 0).trans rfl, (blk_cell (blk_alloc BK112.out _) 1).trans rfl, (blk_cell (blk_alloc BK112.out _) 2).trans rfl, (blk_cell (blk_alloc BK112.out _) 3).trans rfl, (blk_cell (blk_alloc BK112.out _) 4).trans rfl, (World.cell?_alloc_lt _ _ _ (World.block_lt_of_cell? _ _ (((HB.out.cell (World.block_lt_of_cell? w _ hw127_0)).trans hw127_0)))).trans (((HB.out.cell (World.block_lt_of_cell? w _ hw127_0)).trans hw127_0))⟩ (fun hHeld => ?_)
        clear hK K
        refine norm_ (a' := ?_) ?_ ?_
        rotate_left
        ·
         show Act.put _ (some 178) _ = _
         simp only [Act.put, List.setIfInBounds_toArray, List.set_cons_zero, List.set_cons_succ, i64_w, i32_w]
         rfl
        refine one_ (i := 12) (N := some 179) (bm 15 8191) rfl rfl (one_of HT_.out (by kernel_rfl)) (by decide) (fun K hK => ?_)
        refine Kd.R_append_step k56 (w0 := w) w.heap.size (by rfl) (.tmp 168) (.tmp 178) 22 56 (.agg #[(.int .i64 0), (.bool false), (.string ⟨#[]⟩)]) 32 rfl Try.underlying22 info56 rfl (by decide) (by omega) u113000 x113000_3 (⟨t119, ((rd l0 (ji55)) == 1), t123⟩ : S56) [.int .i64 t119, .bool ((rd l0 (ji55)) == 1), .string t123] (fun _ => True) (fun _ => False) rfl rfl ?aP (fun _ hk => hk.elim) ?aF ?aO ?aB ?aS ?aL ?_
        (case aP => exact k56_mkM _ _ _ (⟨t119, ((rd l0 (ji55)) == 1), t123⟩ : S56))
        (case aB => exact (Sq.kl3 HB GE108 GE109 GE112))
        (case aF => exact (fun _ _ => trivial))
        (case aO => exact (kr HO_113000))
        (case aS => exact (below_size (Sq.kl3 HB GE108 GE109 GE112)))
        (case aL => have := LMc77.out; omega)
        intro v129 w85 ho hb hg hat
        rw [← Ny128.out] at ho
        replace HO_113001 := Aside0.mk (Kd.R_over' (kr HO_113001) (Kd.R_typed (kr HO_113000)) (by decide) hg)
        replace BK108 := Aside0.mk (blk_grown (g := gb108) (o := .cells #[.int .i64 a1_0, .int .i64 a1_1, .int .i64 a1_2, .int .i64 a1_3, .int .i64 a1_4, .int .i64 a1_5, .int .i64 a1_6] 41 (0, 0)) (kb BK108) hg (Kd.R_ne HO_113000.out BK108.out (by decide)))
        replace BK109 := Aside0.mk (blk_grown (g := gb109) (o := .cells #[.slice none 0 0, .slice none 0 0, .slice none 0 0, .slice none 0 0, .slice none 0 0] 31 (0, 0)) (kb BK109) hg (Kd.R_ne HO_113000.out BK109.out (by decide)))
        replace BK112 := Aside0.mk (blk_grown (g := gb112) (o := .cells #[u113000, u113001, .slice none 0 0, .slice none 0 0, .slice none 0 0] 31 (0, 0)) (kb BK112) hg (Kd.R_ne HO_113000.out BK112.out (by decide)))
        replace HB := Aside0.mk (hb)
        have HO130 := Aside0.mk (ho)
        clear HO_113000 ho hb hg hat
        obtain ⟨Ao86, co86, eo86⟩ := Kd.R_slice HO130.out
        (first | subst eo86 | (injection eo86 with f1_ f2_ f3_; have f4_ := f1_.symm; have f5_ := f3_.symm; clear f1_ f2_ f3_; subst f4_; subst f5_))
        refine hK.out _ _ ⟨(blk_cell BK112.out 0).trans rfl, (blk_cell BK112.out 1).trans rfl, (blk_cell BK112.out 2).trans rfl, (blk_cell BK112.out 3).trans rfl, (blk_cell BK112.out 4).trans rfl, ((HB.out.cell (World.block_lt_of_cell? w _ hw127_0)).trans hw127_0)⟩ (fun hHeld => ?_)
        clear hK K
        refine norm_ (a' := ?_) ?_ ?_
        rotate_left
        ·
         show Act.put _ (some 179) _ = _
         simp only [Act.put, List.setIfInBounds_toArray, List.set_cons_zero, List.set_cons_succ, i64_w, i32_w]
         rfl
        refine Sq.pv 13 180 16383 HT_ ?_
        refine last_ (i := 14) (N := none) #[true, true, true, true, true, true, true, true, true, true, true, true, true, true, true] rfl rfl (one_of HT_.out (by kernel_rfl)) (by decide) (fun K hK => ?_)
        have hs87 := kc BK112 0 rfl
        have hfs87 := blk_frozen BK112.out 0
        have hns87_0 := NB108_112.out
        have hns87_1 := NB109_112.out
        have hms87_0 := NB112_108.out
        have hms87_1 := NB112_109.out
        refine skip_ (w1 := ?_) (by rfl) rfl ?_ ?_
        rotate_left
        ·
         go_simp
         rfl
        refine hK.out _ _ ?_
        clear hK K
        refine done_ (done_of HT_.out (by kernel_rfl)) ?_
        try go_wp2
        subst hji48
        go_roundg k3
        case measure => have := HJ4.out; have := HK2.out; have := HK3.out; omega
        case rel => exact ⟨(wrap64 (x20_3 + 1)), (y128), (.slice Ao86 y128.length co86), (by first | rfl | (simp; done) | (simp [*]; done)), H', ⟨by have := HJ4.out; have := HK2.out; have := HK3.out; omega⟩, ⟨by (with_reducible repeat (first | apply Kd.R_alloc | apply Kd.R_drewN | apply Kd.R_drew)); exact Kd.R_mono (Sq.rf1 HO130 BK112) (fun _ hk => trivial)⟩, ⟨by (with_reducible repeat (first | apply Kd.R_alloc | apply Kd.R_drewN | apply Kd.R_drew)); exact Kd.R_mono (Sq.rf1 HO_113001 BK112) (fun _ hk => trivial)⟩, ⟨by (with_reducible repeat (first | refine blk_drewN ?_ _ | refine blk_drew ?_ | refine blk_alloc ?_ _)); refine blk_far ?_ NB108_112.out _; exact Sq.kb BK108⟩, ⟨by (with_reducible repeat (first | refine blk_drewN ?_ _ | refine blk_drew ?_ | refine blk_alloc ?_ _)); refine blk_far ?_ NB109_112.out _; exact Sq.kb BK109⟩, ⟨by (with_reducible repeat (first | refine blk_drewN ?_ _ | refine blk_drew ?_ | refine blk_alloc ?_ _)); refine blk_put (cs := #[u113000, u113001, .slice none 0 0, .slice none 0 0, .slice none 0 0]) ?_ 0 _ rfl; exact Sq.kb BK112⟩, ⟨Sq.kl3 HB GE108 GE109 GE112⟩⟩
end Go.Proofs.Ythobnoknbdljgaa.PD
end
section
namespace Go.Proofs.Ythobnoknbdljgaa
open Go.RowKit Hand PB0 Go.Proofs.YthobnoknbdljgaaW.PrintWords PR
section
variable (m : Nat) (hm : m ≤ 8) (v : Int) (nb P : List Int) (K : List S56) (J : List S54) (L : List S67) (S U : List Bool)
theorem w1 (i : Nat) (h : i < 1000000000) : wrap64 ((i : Int) + 1) = ((i + 1 : Nat) : Int) := by rw [Oct.w64 (by omega) (by omega)]; omega
end
end Go.Proofs.Ythobnoknbdljgaa
end
section
namespace Go.Proofs.Ythobnoknbdljgaa
open Go.RowKit Hand PB0 Go.Proofs.YthobnoknbdljgaaW.PrintWords PD
def derr (e : Int) : List S56 × List S54 × List S67 × List Bool × List Bool × Int := ([], [], [], [], [], e)
theorem rd_byte {X : List Int} (hb : Bytes X) (i : Nat) (h : i < X.length) : 0 ≤ rd X (i : Int) ∧ rd X (i : Int) < 256 := by
 have e : rd X (i : Int) = X[i] := by unfold rd; rw [Int.toNat_natCast, List.getD_eq_getElem?_getD, List.getElem?_eq_getElem h]; rfl
 rw [e]
 exact hb _ (List.getElem_mem h)
theorem wadd (a b : Nat) (h : a + b < 1000000000) : wrap64 ((a : Int) + (b : Int)) = ((a + b : Nat) : Int) := by
 unfold wrap64
 omega
theorem wmul (a b : Nat) (h : a * b < 1000000000) : wrap64 ((a : Int) * (b : Int)) = ((a * b : Nat) : Int) := by
 rw [← Int.natCast_mul]
 unfold wrap64
 omega
theorem cut_drop (X : List Int) (B o n i : Nat) (h1 : i < n) (h2 : o + n ≤ B) (h3 : B ≤ X.length) : (((X.take B).drop o).take n).drop i = rd X ((o + i : Nat) : Int) :: (((X.take B).drop o).take n).drop (i + 1) := by
 have hl : i < (((X.take B).drop o).take n).length := by simp; omega
 rw [List.drop_eq_getElem_cons hl]
 congr 1
 unfold rd
 rw [Int.toNat_natCast, List.getD_eq_getElem?_getD, List.getElem?_eq_getElem (by omega)]
 simp
theorem cut_take (X : List Int) (B o n i : Nat) (h1 : i < n) (h2 : o + n ≤ B) (h3 : B ≤ X.length) : (((X.take B).drop o).take n).take (i + 1) = (((X.take B).drop o).take n).take i ++ [rd X ((o + i : Nat) : Int)] := by
 have hl : i < (((X.take B).drop o).take n).length := by simp; omega
 rw [List.take_succ_eq_append_getElem hl]
 congr 2
 unfold rd
 rw [Int.toNat_natCast, List.getD_eq_getElem?_getD, List.getElem?_eq_getElem (by omega)]
 simp
theorem ab_t {x : Int} (l : List Int) (h : ¬ x > 1) : allB (x :: l) = allB l := by
 show (decide (x < 2) && _) = _
 rw [decide_eq_true (by omega)]
 rfl
theorem ab_f {x : Int} (l : List Int) (h : x > 1) : allB (x :: l) = false := by
 show (decide (x < 2) && _) = _
 rw [decide_eq_false (by omega)]
 rfl
theorem o_bds (m : Nat) (hm : m = 4 ∨ m = 8) (ut sd le ti ty ch : Nat) (h : ti ≤ 5000 ∧ le ≤ 5000 ∧ ty ≤ 256 ∧ ch ≤ 256 ∧ ut ≤ 256 ∧ sd ≤ 256) :
  m * ti ≤ 40000 ∧ o1 m ti = m * ti + ti ∧ o2 m ti ty = o1 m ti + 6 * ty ∧ o3 m ti ty ch = o2 m ti ty + ch ∧ o4 m le ti ty ch = o3 m ti ty ch + (m + 4) * le ∧ (m + 4) * le ≤ 60000 ∧ o5 m sd le ti ty ch = o4 m le ti ty ch + sd ∧ bodyN m ut sd le ti ty ch = o5 m sd le ti ty ch + ut := by
 unfold o5 o4 o3 o2 o1 bodyN
 rcases hm with rfl | rfl <;> omega
section
variable (X : List Int) (hb : Bytes X) (hlen : X.length < 1000000000) (m : Nat) (hm : m = 4 ∨ m = 8) (v : Int) (ut sd le ti ty ch : Nat) (hbd : ti ≤ 5000 ∧ le ≤ 5000 ∧ ty ≤ 256 ∧ ch ≤ 256 ∧ ut ≤ 256 ∧ sd ≤ 256) (B : Nat) (hB : bodyN m ut sd le ti ty ch = B) (hX : B ≤ X.length)
include hm hbd hB hX in
theorem rd_l3 (K : List S56) (J : List S54) (L : List S67) (rb : Bool) (H : Stub2.longcaseref06_Right.f K J L (isOne (dS m sd le ti ty ch (X.take B))) (isOne (dU m ut sd le ti ty ch (X.take B))) m v = some rb) (d : Nat) : ∀ (k i : Nat), i + d = sd + ut → d < k →
  longcaseref06_Decode.l3 k X m (o4 m le ti ty ch : Nat) (o5 m sd le ti ty ch : Nat) i v ut sd le ti ty ch K J L (isOne ((dS m sd le ti ty ch (X.take B)).take i)) (isOne ((dU m ut sd le ti ty ch (X.take B)).take (i - sd))) = some (if (allB ((dS m sd le ti ty ch (X.take B)).drop i) && allB ((dU m ut sd le ti ty ch (X.take B)).drop (i - sd))) = true ∧ rb = true then (K, J, L, isOne (dS m sd le ti ty ch (X.take B)), isOne (dU m ut sd le ti ty ch (X.take B)), 0) else derr 4) := by
 have f1 : o5 m sd le ti ty ch = o4 m le ti ty ch + sd := by have ho := o_bds m hm ut sd le ti ty ch hbd; omega
 have f2 : B = o5 m sd le ti ty ch + ut := by have ho := o_bds m hm ut sd le ti ty ch hbd; omega
 have f3 : B < 200000 := by have ho := o_bds m hm ut sd le ti ty ch hbd; omega
 have f4 : ut ≤ 256 ∧ sd ≤ 256 := by omega
 clear hB hm hbd
 have hlS : (dS m sd le ti ty ch (X.take B)).length = sd := by unfold dS; simp; omega
 have hlU : (dU m ut sd le ti ty ch (X.take B)).length = ut := by unfold dU; simp; omega
 induction d with
 | zero =>
  intro k i hi hk
  obtain ⟨k, rfl⟩ : ∃ j, k = j + 1 := ⟨k - 1, by omega⟩
  have t1 : (dS m sd le ti ty ch (X.take B)).take i = dS m sd le ti ty ch (X.take B) := List.take_of_length_le (by omega)
  have t2 : (dU m ut sd le ti ty ch (X.take B)).take (i - sd) = dU m ut sd le ti ty ch (X.take B) := List.take_of_length_le (by omega)
  have t3 : (dS m sd le ti ty ch (X.take B)).drop i = [] := List.drop_of_length_le (by omega)
  have t4 : (dU m ut sd le ti ty ch (X.take B)).drop (i - sd) = [] := List.drop_of_length_le (by omega)
  rw [longcaseref06_Decode.l3, wadd sd ut (by omega), if_neg (by omega), t1, t2, H, Option.bind_some, t3, t4]
  cases rb <;> rfl
 | succ d ih =>
  intro k i hi hk
  obtain ⟨k, rfl⟩ : ∃ j, k = j + 1 := ⟨k - 1, by omega⟩
  rw [longcaseref06_Decode.l3, wadd sd ut (by omega), if_pos (by omega), wadd (o4 m le ti ty ch) i (by omega), if_pos (by omega), if_pos (by omega), w1 i (by omega)]
  by_cases c : i < sd
  ·
   have e1 : (dS m sd le ti ty ch (X.take B)).drop i = rd X ((o4 m le ti ty ch + i : Nat) : Int) :: (dS m sd le ti ty ch (X.take B)).drop (i + 1) := cut_drop X B _ sd i c (by omega) hX
   have e2 : (dS m sd le ti ty ch (X.take B)).take (i + 1) = (dS m sd le ti ty ch (X.take B)).take i ++ [rd X ((o4 m le ti ty ch + i : Nat) : Int)] := cut_take X B _ sd i c (by omega) hX
   have h := ih k (i + 1) (by omega) (by omega)
   rw [e2, show i + 1 - sd = i - sd by omega] at h
   rw [e1]
   generalize rd X ((o4 m le ti ty ch + i : Nat) : Int) = x at *
   by_cases hx : x > 1
   ·
    rw [if_pos hx, if_neg (by simp [allB]; omega)]
    rfl
   rw [if_neg hx, if_pos (by omega), if_pos (by rw [isOne_len, List.length_take]; omega)]
   have e3 : isOne ((dS m sd le ti ty ch (X.take B)).take i) ++ [x == 1] = isOne ((dS m sd le ti ty ch (X.take B)).take i ++ [x]) := by simp [isOne]
   rw [e3, h]
   have e4 : allB (x :: (dS m sd le ti ty ch (X.take B)).drop (i + 1)) = allB ((dS m sd le ti ty ch (X.take B)).drop (i + 1)) := by
    show (decide (x < 2) && _) = _
    rw [decide_eq_true (by omega)]
    rfl
   rw [e4]
  obtain ⟨q, rfl⟩ : ∃ q, i = sd + q := ⟨i - sd, by omega⟩
  have hq : q < ut := by omega
  have hq256 : q ≤ 256 := by omega
  have hqX : o5 m sd le ti ty ch + q < X.length := by omega
  have hqS : o5 m sd le ti ty ch + sd + q < 1000000000 := by omega
  have eq1 : sd + q - sd = q := Nat.add_sub_cancel_left sd q
  have eq2 : sd + q + 1 - sd = q + 1 := by omega
  have eq3 : o4 m le ti ty ch + (sd + q) = o5 m sd le ti ty ch + q := by omega
  have e1 : (dU m ut sd le ti ty ch (X.take B)).drop q = rd X ((o5 m sd le ti ty ch + q : Nat) : Int) :: (dU m ut sd le ti ty ch (X.take B)).drop (q + 1) := cut_drop X B _ ut q hq (by omega) hX
  have e2 : (dU m ut sd le ti ty ch (X.take B)).take (q + 1) = (dU m ut sd le ti ty ch (X.take B)).take q ++ [rd X ((o5 m sd le ti ty ch + q : Nat) : Int)] := cut_take X B _ ut q hq (by omega) hX
  have h := ih k (sd + q + 1) (by omega) (by omega)
  have t1 : (dS m sd le ti ty ch (X.take B)).take (sd + q) = (dS m sd le ti ty ch (X.take B)) := List.take_of_length_le (by omega)
  have t2 : (dS m sd le ti ty ch (X.take B)).take (sd + q + 1) = (dS m sd le ti ty ch (X.take B)) := List.take_of_length_le (by omega)
  have e7 : (dS m sd le ti ty ch (X.take B)).drop (sd + q) = [] := List.drop_of_length_le (by omega)
  have e8 : (dS m sd le ti ty ch (X.take B)).drop (sd + q + 1) = [] := List.drop_of_length_le (by omega)
  rw [eq2, e2, t2, e8] at h
  have e0 : wrap64 (wrap64 (((o5 m sd le ti ty ch : Nat) : Int) + ((sd + q : Nat) : Int)) - (sd : Int)) = ((o5 m sd le ti ty ch + q : Nat) : Int) := by
   rw [wadd _ _ (by omega), Oct.w64 (by omega) (by omega)]
   omega
  have hlq : (isOne ((dU m ut sd le ti ty ch (X.take B)).take q)).length ≤ 256 := by rw [isOne_len]; exact Nat.le_trans (List.length_take_le _ _) hq256
  clear ih f1 f2 f3 hlS hlU t2 e8 e2
  rw [e0, eq1, e1, t1, eq3, e7]
  have g1 : ¬ ((sd + q : Nat) : Int) < (sd : Int) := Int.not_lt.2 (Int.ofNat_le.2 (Nat.le_add_right _ _))
  have g2 : (0 : Int) ≤ ((o5 m sd le ti ty ch + q : Nat) : Int) := Int.natCast_nonneg _
  have g3 : ((o5 m sd le ti ty ch + q : Nat) : Int) < (X.length : Int) := Int.ofNat_lt.2 hqX
  have g4 : (isOne ((dU m ut sd le ti ty ch (X.take B)).take q)).length < 140737488355328 := Nat.lt_of_le_of_lt hlq (by decide)
  generalize rd X ((o5 m sd le ti ty ch + q : Nat) : Int) = x at *
  by_cases hx : x > 1
  ·
   rw [if_pos hx, ab_f _ hx, Bool.and_false, if_neg (fun h => Bool.noConfusion h.1)]
   rfl
  have e3 : isOne ((dU m ut sd le ti ty ch (X.take B)).take q) ++ [x == 1] = isOne ((dU m ut sd le ti ty ch (X.take B)).take q ++ [x]) := by simp [isOne]
  rw [if_neg hx, if_neg g1, if_pos g2, if_pos g3, if_pos g4, e3, h, ab_t _ hx]
end
section
variable (X : List Int) (hb : Bytes X) (hlen : X.length < 1000000000) (m : Nat) (hm : m = 4 ∨ m = 8) (v : Int) (ut sd le ti ty ch : Nat) (B : Nat) (hB : B < 200000) (hX : B ≤ X.length) (p1 p2 p3 p4 p5 : Nat)
include hb hlen hm hB hX in
theorem rd_l2 (hle : le ≤ 5000) (hp : p3 + (m + 4) * le ≤ B) (K : List S56) (J : List S54) (R : List S56 × List S54 × List S67 × List Bool × List Bool × Int) (F : Nat) (H : ∀ k, F ≤ k → longcaseref06_Decode.l3 k X m p4 p5 0 v ut sd le ti ty ch K J ((List.range le).map (leap1 m p3 (X.take B))) [] [] = some R) (d : Nat) : ∀ (k i : Nat), i + d = le → F + d + 15 ≤ k →
  longcaseref06_Decode.l2 k X m p3 p4 p5 i v ut sd le ti ty ch K J ((List.range i).map (leap1 m p3 (X.take B))) = some R := by
 induction d with
 | zero =>
  intro k i hi hk
  obtain ⟨k, rfl⟩ : ∃ j, k = j + 1 := ⟨k - 1, by omega⟩
  obtain rfl : i = le := by omega
  rw [longcaseref06_Decode.l2, if_neg (by omega)]
  exact H k (by omega)
 | succ d ih =>
  intro k i hi hk
  obtain ⟨k, rfl⟩ : ∃ j, k = j + 1 := ⟨k - 1, by omega⟩
  have hmi : (m + 4) * i + (m + 4) ≤ (m + 4) * le := by
   rw [← Nat.mul_succ]
   exact Nat.mul_le_mul_left _ (by omega)
  obtain ⟨z, hz⟩ : ∃ z, (m + 4) * i = z := ⟨_, rfl⟩
  obtain ⟨Z, hZ⟩ : ∃ z, (m + 4) * le = z := ⟨_, rfl⟩
  rw [hZ] at hp
  rw [hz, hZ] at hmi
  have b1 : i * (m + 4) < 1000000000 := by rw [Nat.mul_comm, hz]; omega
  have b3 : p3 + z < 1000000000 := by omega
  have b4 : p3 + z + m < 1000000000 := by omega
  have b5 : p3 + z + m ≤ B := by omega
  have b6 : p3 + z + m + 4 ≤ B := by omega
  have b7 : 12 ≤ k := by omega
  have b8 : i < 1000000000 := by omega
  have b9 : (i : Int) < (le : Int) := by omega
  have h := ih k (i + 1) (by omega) (by omega)
  have hi' : ((List.range i).map (leap1 m p3 (X.take B))).length < 8796093022208 := by
   rw [List.length_map, List.length_range]
   omega
  have e1 : wrap64 ((m : Int) + 4) = ((m + 4 : Nat) : Int) := wadd m 4 (by omega)
  have e2 : wrap64 ((i : Int) * ((m + 4 : Nat) : Int)) = (z : Int) := by
   rw [wmul i (m + 4) b1, Nat.mul_comm, hz]
  have r2 := rint_cut X hb hlen B (p3 + z + m) 4 (Or.inl rfl) b6 hX k b7
  simp only [Int.cast_ofNat_Int] at r2
  rw [List.range_succ, List.map_append] at h
  rw [longcaseref06_Decode.l2, if_pos b9, e1, e2, wadd p3 z b3, rint_cut X hb hlen B (p3 + z) m hm b5 hX k b7, Option.bind_some, wadd (p3 + z) m b4, r2, Option.bind_some, if_pos hi', w1 i b8]
  subst hz
  exact h
include hb hlen hm hB hX in
theorem rd_l1s (hty : ty ≤ 256) (hp1 : p1 + 6 * ty ≤ B) (hp3 : p2 + ch = p3) (hp3B : p3 ≤ B) (K : List S56) (J : List S54) (k i : Nat) (hi : i < ty) (hk : X.length + 20 ≤ k) (hK : K.length < 4398046511104) :
  longcaseref06_Decode.l1 (k + 1) X m p1 p2 p3 p4 p5 i v ut sd le ti ty ch K J =
   if (ktrue p1 (X.take B) i && kname p1 (((X.take B).drop p2).take ch) (X.take B) i) = true then longcaseref06_Decode.l1 k X m p1 p2 p3 p4 p5 ((i + 1 : Nat) : Int) v ut sd le ti ty ch (K ++ [kind1 p1 (((X.take B).drop p2).take ch) (X.take B) i]) J else some (derr 4) := by
 obtain ⟨z, hz⟩ : ∃ z, p1 + 6 * i = z := ⟨_, rfl⟩
 have hzB : z + 6 ≤ B := by omega
 have hy := rd_byte hb (z + 5) (by omega)
 have c4 := rd_cut X B (z + 4) (by omega)
 have c5 := rd_cut X B (z + 5) (by omega)
 obtain ⟨c, hc⟩ : ∃ c : Nat, rd X ((z + 5 : Nat) : Int) = (c : Int) := ⟨(rd X ((z + 5 : Nat) : Int)).toNat, (Int.toNat_of_nonneg hy.1).symm⟩
 rw [hc] at hy c5
 have hc1 : c < 256 := Int.ofNat_lt.1 hy.2
 have hl3 : (X.take p3).length ≤ X.length := by rw [List.length_take]; exact Nat.min_le_right _ _
 have b1 : 6 * i < 1000000000 := by omega
 have b2 : p1 + 6 * i < 1000000000 := by omega
 have b4 : z + 4 < 1000000000 := by omega
 have b5 : z + 5 < 1000000000 := by omega
 have b6 : p2 + c < 1000000000 := by omega
 have b7 : 12 ≤ k := by omega
 have b8 : i < 1000000000 := by omega
 have b9 : z + 4 ≤ B := by omega
 have b10 : c < 1000000000 := by omega
 have g1 : (i : Int) < (ty : Int) := by omega
 have g2 : (0 : Int) ≤ (p3 : Int) := by omega
 have g3 : (p3 : Int) ≤ (X.length : Int) := by omega
 have g4 : (0 : Int) ≤ ((z + 5 : Nat) : Int) := by omega
 have g5 : ((z + 5 : Nat) : Int) < (X.length : Int) := by omega
 have g6 : (0 : Int) ≤ ((z + 4 : Nat) : Int) := by omega
 have g7 : ((z + 4 : Nat) : Int) < (X.length : Int) := by omega
 have hk3 : X.length + 3 ≤ k := by omega
 have rn := rname_f (X.take p3) (hb.take _) (Nat.lt_of_le_of_lt hl3 hlen) (p2 + c) k (Nat.le_trans (Nat.add_le_add_right hl3 3) hk3)
 have hn := nameI_cut X B p2 ch c (by rw [hp3]; exact hp3B) hX
 rw [hp3] at hn
 rw [hn] at rn
 have r1 := rint_cut X hb hlen B z 4 (Or.inl rfl) b9 hX k b7
 simp only [Int.cast_ofNat_Int] at r1
 have e0 := wmul 6 i b1
 have e1 := wadd p1 (6 * i) b2
 rw [hz] at e1
 have e4 := wadd z 4 b4
 have e5 := wadd z 5 b5
 simp only [Int.cast_ofNat_Int] at e0 e4 e5
 have ec : wrap64 (c : Int) = (c : Int) := by
  have h := wadd 0 c (by rw [Nat.zero_add]; exact b10)
  rw [Nat.zero_add, Int.natCast_zero, Int.zero_add] at h
  exact h
 have e6 := wadd p2 c b6
 have hkat : kat p1 (X.take B) i = (c : Int) := by unfold kat; rw [hz, ← c5, ec]
 rw [longcaseref06_Decode.l1, if_pos g1, e0, e1, r1, Option.bind_some, if_pos g2, if_pos g3, e5, if_pos g4, if_pos g5, hc, ec, e6, Int.toNat_natCast, rn, Option.bind_some, e4, if_pos g6, if_pos g7, w1 i b8]
 unfold ktrue kname kind1
 rw [hkat, hz, ← c4]
 generalize rd X ((z + 4 : Nat) : Int) = x at *
 by_cases hx : x > 1
 ·
  rw [if_pos hx, decide_eq_false (show ¬ x < 2 from fun h => absurd hx (Int.not_lt.2 (Int.le_of_lt_add_one h))), Bool.false_and, if_neg (by decide)]
  rfl
 rw [if_neg hx, decide_eq_true (show x < 2 from Int.lt_add_one_of_le (Int.not_lt.1 hx)), Bool.true_and]
 by_cases hcc : (c : Int) ≥ (ch : Int)
 rotate_left
 ·
  rw [if_neg hcc]
  by_cases hnn : (nameI (((X.take B).drop p2).take ch) (c : Int)).2 = true
  ·
   rw [if_pos hnn, if_pos hK, if_pos hnn]
  rw [if_neg hnn, if_neg hnn]
  rfl
 have hl2 : ((((X.take B).drop p2).take ch)).length ≤ c := by rw [List.length_take]; exact Nat.le_trans (Nat.min_le_left _ _) (Int.ofNat_le.1 hcc)
 rw [if_pos hcc, nameI_out _ c hl2, if_neg (by decide)]
 rfl
include hb hlen hm hB hX in
theorem rd_l1 (hty : ty ≤ 256) (hp1 : p1 + 6 * ty ≤ B) (hp3 : p2 + ch = p3) (hp3B : p3 ≤ B) (J : List S54) (R : List S56 × List S54 × List S67 × List Bool × List Bool × Int) (F : Nat) (H : ∀ k, F ≤ k → longcaseref06_Decode.l2 k X m p3 p4 p5 0 v ut sd le ti ty ch ((List.range ty).map (kind1 p1 (((X.take B).drop p2).take ch) (X.take B))) J [] = some R) (d : Nat) : ∀ (k i : Nat), i + d = ty → F + d + X.length + 25 ≤ k → (∀ j, j < i → (ktrue p1 (X.take B) j && kname p1 (((X.take B).drop p2).take ch) (X.take B) j) = true) →
  longcaseref06_Decode.l1 k X m p1 p2 p3 p4 p5 i v ut sd le ti ty ch ((List.range i).map (kind1 p1 (((X.take B).drop p2).take ch) (X.take B))) J = some (if ((List.range ty).all (ktrue p1 (X.take B)) && (List.range ty).all (kname p1 (((X.take B).drop p2).take ch) (X.take B))) = true then R else derr 4) := by
 induction d with
 | zero =>
  intro k i hi hk hj
  obtain ⟨k, rfl⟩ : ∃ j, k = j + 1 := ⟨k - 1, by omega⟩
  obtain rfl : i = ty := by omega
  rw [longcaseref06_Decode.l1, if_neg (by omega), if_pos]
  ·
   exact H k (by omega)
  ·
   rw [Bool.and_eq_true, List.all_eq_true, List.all_eq_true]
   exact ⟨fun j h => ((Bool.and_eq_true _ _).mp (hj j (List.mem_range.1 h))).1, fun j h => ((Bool.and_eq_true _ _).mp (hj j (List.mem_range.1 h))).2⟩
 | succ d ih =>
  intro k i hi hk hj
  obtain ⟨k, rfl⟩ : ∃ j, k = j + 1 := ⟨k - 1, by omega⟩
  have hK : ((List.range i).map (kind1 p1 (((X.take B).drop p2).take ch) (X.take B))).length < 4398046511104 := by
   rw [List.length_map, List.length_range]
   omega
  rw [rd_l1s X hb hlen m hm v ut sd le ti ty ch B hB hX p1 p2 p3 p4 p5 hty hp1 hp3 hp3B _ J k i (by omega) (by omega) hK]
  by_cases hc : (ktrue p1 (X.take B) i && kname p1 (((X.take B).drop p2).take ch) (X.take B) i) = true
  ·
   rw [if_pos hc]
   have h := ih k (i + 1) (by omega) (by omega) (fun j hji => by
    by_cases e : j = i
    ·
     rw [e]
     exact hc
    ·
     exact hj j (by omega))
   rw [List.range_succ, List.map_append] at h
   exact h
  ·
   rw [if_neg hc, if_neg]
   intro hall
   rw [Bool.and_eq_true, List.all_eq_true, List.all_eq_true] at hall
   exact hc ((Bool.and_eq_true _ _).mpr ⟨hall.1 i (List.mem_range.2 (by omega)), hall.2 i (List.mem_range.2 (by omega))⟩)
include hb hlen hm hB hX in
theorem rd_l0 (hti : ti ≤ 5000) (hp : m * ti + ti ≤ B) (R : List S56 × List S54 × List S67 × List Bool × List Bool × Int) (F : Nat) (H : ∀ k, F ≤ k → longcaseref06_Decode.l1 k X m p1 p2 p3 p4 p5 0 v ut sd le ti ty ch [] ((List.range ti).map (jump1 m ti (X.take B))) = some R) (d : Nat) : ∀ (k i : Nat), i + d = ti → F + d + 15 ≤ k →
  longcaseref06_Decode.l0 k X m 0 ((m * ti : Nat) : Int) p1 p2 p3 p4 p5 i v ut sd le ti ty ch ((List.range i).map (jump1 m ti (X.take B))) = some R := by
 induction d with
 | zero =>
  intro k i hi hk
  obtain ⟨k, rfl⟩ : ∃ j, k = j + 1 := ⟨k - 1, by omega⟩
  obtain rfl : i = ti := by omega
  rw [longcaseref06_Decode.l0, if_neg (by omega)]
  exact H k (by omega)
 | succ d ih =>
  intro k i hi hk
  obtain ⟨k, rfl⟩ : ∃ j, k = j + 1 := ⟨k - 1, by omega⟩
  have hmi : m * i + m ≤ m * ti := by
   rw [← Nat.mul_succ]
   exact Nat.mul_le_mul_left _ (by omega)
  obtain ⟨z, hz⟩ : ∃ z, m * i = z := ⟨_, rfl⟩
  obtain ⟨Z, hZ⟩ : ∃ z, m * ti = z := ⟨_, rfl⟩
  rw [hZ] at hp
  rw [hz, hZ] at hmi
  have b1 : i * m < 1000000000 := by rw [Nat.mul_comm, hz]; omega
  have b2 : Z + i < 1000000000 := by omega
  have b3 : z + m ≤ B := by omega
  have b4 : Z + i < B := by omega
  have b7 : 12 ≤ k := by omega
  have b8 : i < 1000000000 := by omega
  have b9 : (i : Int) < (ti : Int) := by omega
  have b10 : 0 + z < 1000000000 := by omega
  have g2 : (0 : Int) ≤ ((Z + i : Nat) : Int) := by omega
  have g3 : ((Z + i : Nat) : Int) < (X.length : Int) := by omega
  have hi' : ((List.range i).map (jump1 m ti (X.take B))).length < 8796093022208 := by
   rw [List.length_map, List.length_range]
   omega
  have h := ih k (i + 1) (by omega) (by omega)
  rw [List.range_succ, List.map_append] at h
  have e2 : wrap64 ((i : Int) * (m : Int)) = (z : Int) := by
   rw [wmul i m b1, Nat.mul_comm, hz]
  have e3 := wadd 0 z b10
  rw [Nat.zero_add] at e3
  simp only [Int.cast_ofNat_Int] at e3
  rw [longcaseref06_Decode.l0, if_pos b9, e2, e3, rint_cut X hb hlen B z m hm b3 hX k b7, Option.bind_some, hZ, wadd Z i b2, if_pos g2, if_pos g3, if_pos hi', w1 i b8, rd_cut X B (Z + i) b4]
  rw [← hZ] at *
  subst hz
  exact h
end
end Go.Proofs.Ythobnoknbdljgaa
end
section
namespace Go.Proofs.Ythobnoknbdljgaa
open Go.RowKit Hand PB0 Go.Proofs.YthobnoknbdljgaaW.PrintWords PD
theorem rright_d (m ut sd le ti ty ch : Nat) (v : Int) (bs : List Int) (hb : Bytes bs) (h : ti ≤ 5000 ∧ le ≤ 5000 ∧ ty ≤ 256 ∧ ch ≤ 256 ∧ ut ≤ 256 ∧ sd ≤ 256) :
  Stub2.longcaseref06_Right.f (dK m ti ty ch bs) (dJ m ti bs) (dL m le ti ty ch bs) (isOne (dS m sd le ti ty ch bs)) (isOne (dU m ut sd le ti ty ch bs)) m v = some (dRight m v ut sd le ti ty ch bs) := by
 have hx : ∀ x ∈ dL m le ti ty ch bs, -9223372036854775808 ≤ x.f1 ∧ x.f1 ≤ 9223372036854775807 := by
  intro x hx
  unfold dL at hx
  obtain ⟨i, _, rfl⟩ := List.mem_map.1 hx
  have h := numU_fit 4 (.inl rfl) (bs.drop (o3 m ti ty ch + (m + 4) * i + m)) (hb.drop _)
  rw [fit4] at h
  show -9223372036854775808 ≤ numU 4 _ ∧ numU 4 _ ≤ _
  omega
 unfold Stub2.longcaseref06_Right.f
 exact if_pos ⟨encOK_d m ut sd le ti ty ch bs h, hx⟩
theorem rdec_j (k : Nat) (l0 : List Int) (v ut sd le ti ty ch a2 : Int) (h : ¬ ((a2 = 4 ∨ a2 = 8) ∧ rightP v ut sd le ti ty ch)) : longcaseref06_Decode.f (k + 1) l0 v ut sd le ti ty ch a2 = some (derr 1) := by
 unfold longcaseref06_Decode.f
 rw [rright5_f, Option.bind_some]
 by_cases hp : rightP v ut sd le ti ty ch
 ·
  have ha : ¬ (a2 = 4 ∨ a2 = 8) := fun ha => h ⟨ha, hp⟩
  rw [decide_eq_true hp, if_pos rfl, if_neg (by omega), show (a2 != 8) = true by simpa using fun e => ha (.inr e), longcaseref06_Decode.j0, if_pos rfl]
  rfl
 ·
  rw [decide_eq_false hp, if_neg (by decide), longcaseref06_Decode.j0, if_pos rfl]
  rfl
theorem rdec_idx (m : Nat) (hm : m = 4 ∨ m = 8) (ut sd le ti ty ch : Nat) (h : ti ≤ 5000 ∧ le ≤ 5000 ∧ ty ≤ 256 ∧ ch ≤ 256 ∧ ut ≤ 256 ∧ sd ≤ 256) :
  wrap64 ((ti : Int) * (m : Int)) = ((m * ti : Nat) : Int) ∧ wrap64 (((m * ti : Nat) : Int) + (ti : Int)) = ((o1 m ti : Nat) : Int) ∧ wrap64 (6 * (ty : Int)) = ((6 * ty : Nat) : Int) ∧ wrap64 (((o1 m ti : Nat) : Int) + ((6 * ty : Nat) : Int)) = ((o2 m ti ty : Nat) : Int) ∧ wrap64 (((o2 m ti ty : Nat) : Int) + (ch : Int)) = ((o3 m ti ty ch : Nat) : Int) ∧
  wrap64 ((m : Int) + 4) = ((m + 4 : Nat) : Int) ∧ wrap64 ((le : Int) * ((m + 4 : Nat) : Int)) = (((m + 4) * le : Nat) : Int) ∧ wrap64 (((o3 m ti ty ch : Nat) : Int) + (((m + 4) * le : Nat) : Int)) = ((o4 m le ti ty ch : Nat) : Int) ∧ wrap64 (((o4 m le ti ty ch : Nat) : Int) + (sd : Int)) = ((o5 m sd le ti ty ch : Nat) : Int) := by
 obtain ⟨q0, q1, q2, q3, q4, q5, q6, q7⟩ := o_bds m hm ut sd le ti ty ch h
 have b1 : ti * m < 1000000000 := by rw [Nat.mul_comm]; omega
 have b2 : le * (m + 4) < 1000000000 := by rw [Nat.mul_comm]; omega
 rw [q6, q4, q3, q2, q1]
 generalize hA : m * ti = A at *
 generalize hC : (m + 4) * le = C at *
 have b3 : A + ti < 1000000000 := by omega
 have b4 : A + ti + 6 * ty < 1000000000 := by omega
 have b5 : A + ti + 6 * ty + ch < 1000000000 := by omega
 have b6 : A + ti + 6 * ty + ch + C < 1000000000 := by omega
 have b7 : A + ti + 6 * ty + ch + C + sd < 1000000000 := by omega
 have b8 : m + 4 < 1000000000 := by omega
 have b9 : 6 * ty < 1000000000 := by omega
 have e1 := wmul ti m b1
 rw [Nat.mul_comm, hA] at e1
 have e2 := wmul le (m + 4) b2
 rw [Nat.mul_comm, hC] at e2
 exact ⟨e1, wadd _ _ b3, wmul 6 ty b9, wadd _ _ b4, wadd _ _ b5, wadd m 4 b8, e2, wadd _ _ b6, wadd _ _ b7⟩
theorem rdec_f (X : List Int) (hb : Bytes X) (hlen : X.length < 1000000000) (v ut sd le ti ty ch a2 : Int) : ∃ k, longcaseref06_Decode.f k X v ut sd le ti ty ch a2 = block_Decode.f X v ut sd le ti ty ch a2 := by
 by_cases hp : (a2 = 4 ∨ a2 = 8) ∧ rightP v ut sd le ti ty ch
 case neg =>
  refine ⟨1, ?_⟩
  rw [rdec_j 0 X v ut sd le ti ty ch a2 hp]
  unfold block_Decode.f
  rw [if_neg hp]
  rfl
 obtain ⟨ha, hp⟩ := hp
 obtain ⟨ut, rfl⟩ := Int.eq_ofNat_of_zero_le (show 0 ≤ ut by obtain ⟨h1, h2, h3, h4, h5, h6, h7⟩ := hp; omega)
 obtain ⟨sd, rfl⟩ := Int.eq_ofNat_of_zero_le (show 0 ≤ sd by obtain ⟨h1, h2, h3, h4, h5, h6, h7⟩ := hp; omega)
 obtain ⟨le, rfl⟩ := Int.eq_ofNat_of_zero_le (show 0 ≤ le by obtain ⟨h1, h2, h3, h4, h5, h6, h7⟩ := hp; omega)
 obtain ⟨ti, rfl⟩ := Int.eq_ofNat_of_zero_le (show 0 ≤ ti by obtain ⟨h1, h2, h3, h4, h5, h6, h7⟩ := hp; omega)
 obtain ⟨ty, rfl⟩ := Int.eq_ofNat_of_zero_le (show 0 ≤ ty by obtain ⟨h1, h2, h3, h4, h5, h6, h7⟩ := hp; omega)
 obtain ⟨ch, rfl⟩ := Int.eq_ofNat_of_zero_le (show 0 ≤ ch by obtain ⟨h1, h2, h3, h4, h5, h6, h7⟩ := hp; omega)
 obtain ⟨m, hm, rfl⟩ : ∃ m : Nat, (m = 4 ∨ m = 8) ∧ a2 = (m : Int) := by
  rcases ha with rfl | rfl
  ·
   exact ⟨4, .inl rfl, rfl⟩
  exact ⟨8, .inr rfl, rfl⟩
 have hbd : ti ≤ 5000 ∧ le ≤ 5000 ∧ ty ≤ 256 ∧ ch ≤ 256 ∧ ut ≤ 256 ∧ sd ≤ 256 := by
  obtain ⟨h1, h2, h3, h4, h5, h6, h7⟩ := hp
  omega
 have ho := o_bds m hm ut sd le ti ty ch hbd
 have hj : ∀ k, longcaseref06_Decode.f (k + 1) X v ut sd le ti ty ch m = longcaseref06_Decode.j0 (k + 1) X m false v ut sd le ti ty ch := by
  intro k
  unfold longcaseref06_Decode.f
  rw [rright5_f, Option.bind_some, decide_eq_true hp, if_pos rfl]
  rcases hm with rfl | rfl
  ·
   rw [if_pos (by decide)]
  rw [if_neg (by decide)]
  rfl
 unfold block_Decode.f
 rw [if_pos ⟨ha, hp⟩]
 simp only [Int.toNat_natCast]
 obtain ⟨B, hB⟩ : ∃ B, bodyN m ut sd le ti ty ch = B := ⟨_, rfl⟩
 by_cases hl : X.length < B
 ·
  refine ⟨1, ?_⟩
  rw [hj 0, longcaseref06_Decode.j0, if_neg (by decide), rbody_f m hm v ut sd le ti ty ch hp, Option.bind_some, hB, if_pos (by omega), if_pos hl]
 rw [hB]
 have hX : B ≤ X.length := by omega
 have bO : o1 m ti + 6 * ty ≤ B ∧ o2 m ti ty + ch = o3 m ti ty ch ∧ o3 m ti ty ch ≤ B ∧ o3 m ti ty ch + (m + 4) * le ≤ B ∧ m * ti + ti ≤ B ∧ B < 200000 := by omega
 obtain ⟨u1, u2, u3, u4, u5, u6⟩ := bO
 obtain ⟨a1, a2, a3, a4, a5, a6, a7, a8, a9⟩ := rdec_idx m hm ut sd le ti ty ch hbd
 have hXB : ¬ (X.length : Int) < (B : Int) := Int.not_lt.2 (Int.ofNat_le.2 hX)
 obtain ⟨v1, v2, v3, v4, v5, v6⟩ := id hbd
 refine ⟨sd + ut + 1 + le + 15 + ty + X.length + 25 + ti + 15 + 1, ?_⟩
 have s3 : ∀ k, sd + ut + 1 ≤ k → longcaseref06_Decode.l3 k X m (o4 m le ti ty ch : Nat) (o5 m sd le ti ty ch : Nat) 0 v ut sd le ti ty ch (dK m ti ty ch (X.take B)) (dJ m ti (X.take B)) (dL m le ti ty ch (X.take B)) [] [] = some (if (allB (dS m sd le ti ty ch (X.take B)) && allB (dU m ut sd le ti ty ch (X.take B))) = true ∧ dRight m v ut sd le ti ty ch (X.take B) = true then (dK m ti ty ch (X.take B), dJ m ti (X.take B), dL m le ti ty ch (X.take B), isOne (dS m sd le ti ty ch (X.take B)), isOne (dU m ut sd le ti ty ch (X.take B)), 0) else derr 4) := by
  intro k hk
  have h := rd_l3 X m hm v ut sd le ti ty ch hbd B hB hX _ _ _ _ (rright_d m ut sd le ti ty ch v (X.take B) (hb.take _) hbd) (sd + ut) k 0 (Nat.zero_add _) hk
  rw [Nat.zero_sub, List.take_zero, List.take_zero, List.drop_zero, List.drop_zero] at h
  exact h
 have s2 := fun k hk => rd_l2 X hb hlen m hm v ut sd le ti ty ch B u6 hX (o3 m ti ty ch) (o4 m le ti ty ch) (o5 m sd le ti ty ch) v2 u4 (dK m ti ty ch (X.take B)) (dJ m ti (X.take B)) _ (sd + ut + 1) s3 le k 0 (Nat.zero_add _) hk
 have s1 := fun k hk => rd_l1 X hb hlen m hm v ut sd le ti ty ch B u6 hX (o1 m ti) (o2 m ti ty) (o3 m ti ty ch) (o4 m le ti ty ch) (o5 m sd le ti ty ch) v3 u1 u2 u3 (dJ m ti (X.take B)) _ (sd + ut + 1 + le + 15) s2 ty k 0 (Nat.zero_add _) hk (fun j hj => absurd hj (Nat.not_lt_zero j))
 have s0 := fun k hk => rd_l0 X hb hlen m hm v ut sd le ti ty ch B u6 hX (o1 m ti) (o2 m ti ty) (o3 m ti ty ch) (o4 m le ti ty ch) (o5 m sd le ti ty ch) v1 u5 _ (sd + ut + 1 + le + 15 + ty + X.length + 25) s1 ti k 0 (Nat.zero_add _) hk
 rw [hj, longcaseref06_Decode.j0, if_neg (by decide), rbody_f m hm v ut sd le ti ty ch hp, Option.bind_some, hB, if_neg hXB, a1, a2, a3, a4, a5, a6, a7, a8, a9]
 refine (s0 _ (Nat.le_refl _)).trans ?_
 rw [if_neg hl]
 unfold dOK
 clear s0 s1 s2 s3 a1 a2 a3 a4 a5 a6 a7 a8 a9 u1 u2 u3 u4 u5 u6 v1 v2 v3 v4 v5 v6 hXB hj
 generalize hT : (allB (dS m sd le ti ty ch (X.take B))) = q1
 generalize hU : (allB (dU m ut sd le ti ty ch (X.take B))) = q2
 generalize hW : dRight m v ut sd le ti ty ch (X.take B) = q3
 show some (if ((List.range ty).all (ktrue (o1 m ti) (X.take B)) && (List.range ty).all (kname (o1 m ti) (dNs m ti ty ch (X.take B)) (X.take B))) = true then _ else _) = _
 generalize (List.range ty).all (ktrue (o1 m ti) (X.take B)) = q4
 generalize (List.range ty).all (kname (o1 m ti) (dNs m ti ty ch (X.take B)) (X.take B)) = q5
 cases q1 <;> cases q2 <;> cases q3 <;> cases q4 <;> cases q5 <;> rfl
end Go.Proofs.Ythobnoknbdljgaa
namespace Go.Proofs.Ythobnoknbdljgaa.Stub2
open Go.RowKit Hand PB0 Go.Proofs.YthobnoknbdljgaaW.PrintWords
instance (xs : List Int) : Decidable (Bytes xs) := by unfold Bytes; infer_instance
def longcaseref06_Decode.f (l0 : List Int) (v ut sd le ti ty ch a2 : Int) : Option (List S56 × List S54 × List S67 × List Bool × List Bool × Int) :=
 if Bytes l0 ∧ l0.length < 1000000000 then block_Decode.f l0 v ut sd le ti ty ch a2 else none
theorem longcaseref06_Decode.calls (A0 : Option Addr) (c0 : Nat) (l0 : List Int) (v ut sd le ti ty ch a2 : Int) (r1 : List S56) (r2 : List S54) (r3 : List S67) (r4 r5 : List Bool) (r6 : Int) (w : World) (hr0 : Kd.C (Kd.int .u8) w A0 l0.length l0) (hc0 : l0.length ≤ c0) (h : longcaseref06_Decode.f l0 v ut sd le ti ty ch a2 = some (r1, r2, r3, r4, r5, r6)) :
  Calls Try.prog 22 #[.slice A0 l0.length c0, .agg #[.int .i64 v, .int .i64 ut, .int .i64 sd, .int .i64 le, .int .i64 ti, .int .i64 ty, .int .i64 ch], .int .i64 a2] w fun e w' => ∃ v0_ v1_ v2_ v3_ v4_ : Value, e = .returned (.tuple #[.agg #[v0_, v1_, v2_, v3_, v4_], .int .i64 r6]) ∧ Kd.R k56 56 w' w.heap.size (fun _ => True) v0_ r1 ∧ Kd.R k54 54 w' w.heap.size (fun _ => True) v1_ r2 ∧ Kd.R k67 67 w' w.heap.size (fun _ => True) v2_ r3 ∧ Kd.R Kd.bool 4 w' w.heap.size (fun k_ => some k_ ≠ (v4_ : Value).ownBlock) v3_ r4 ∧ Kd.R Kd.bool 4 w' w.heap.size (fun k_ => some k_ ≠ (v3_ : Value).ownBlock) v4_ r5 ∧ Below w.heap.size w w' := by
 unfold longcaseref06_Decode.f at h
 split at h
 ·
  rename_i hh
  obtain ⟨k, hk⟩ := rdec_f l0 hh.1 hh.2 v ut sd le ti ty ch a2
  exact PD.longcaseref06_Decode.calls k A0 c0 l0 v ut sd le ti ty ch a2 r1 r2 r3 r4 r5 r6 w hr0 hc0 (hk.trans h)
 ·
  cases h
end Go.Proofs.Ythobnoknbdljgaa.Stub2
end
