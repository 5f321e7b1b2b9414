/- What the claim needs of its texts, one behind the other (laid by a program of the session's). -/
import Derived.Test.YthobnoknbdljgaaZReads6
set_option linter.unusedVariables false
set_option linter.unusedSectionVars false
set_option linter.unusedSimpArgs false
section
namespace Go.Proofs.Ythobnoknbdljgaa.PL5
def errW : Option Int → Value
 | none => .nilIface
 | some c => .iface 0 (.int .i64 c)
theorem errW_none : errW none = .nilIface := rfl
theorem errW_some (c : Int) : errW (some c) = .iface 0 (.int .i64 c) := rfl
open Go.Proofs.Ythobnoknbdljgaa.PB0 Sq
open Go.RowKit Go.Proofs.Ythobnoknbdljgaa.Stub2 Go.Proofs.Ythobnoknbdljgaa.Stub Go.Proofs.Ythobnoknbdljgaa.Hand Go.Proofs.YthobnoknbdljgaaW.PrintWords Go.Proofs.YthobnoknbdljgaaW.PrintLast Go.Proofs.YthobnoknbdljgaaW.PrintMore
attribute [local go_sem] max2_int min2_int max_two min_two
set_option linter.unusedVariables false
set_option linter.unusedSimpArgs false
def longcaselaw06_BlockReads.j0 : Nat → List Int → Int → Bool → ByteArray → Bool → Int → Int → Int → Int → Int → Int → Int → Option (Bool)
 | 0, _, _, _, _, _, _, _, _, _, _, _, _ => none
 | k + 1, x0, x2, x7, x8, x32, x102000, x102001, x102002, x102003, x102004, x102005, x102006 => if x32 = true then (some x7) else ((block_Decode.f x0 x102000 x102001 x102002 x102003 x102004 x102005 x102006 x2).bind fun bt105 => ((longcaseref06_Decode.f x0 x102000 x102001 x102002 x102003 x102004 x102005 x102006 x2).bind fun bt122 => (if x7 = true then ((longcaselaw06_ref.f bt105.1 bt105.2.1 bt105.2.2.1 bt105.2.2.2.1 bt105.2.2.2.2.1).bind fun bt139 => ((longcaseref06_Same.f bt139.1 bt139.2.1 bt139.2.2.1 bt139.2.2.2.1 bt139.2.2.2.2 bt122.1 bt122.2.1 bt122.2.2.1 bt122.2.2.2.1 bt122.2.2.2.2.1).bind fun t154 => (if t154 = true then (if bt105.2.2.2.2.2 = bt122.2.2.2.2.2 then (some ((strOfNums x0).toList == x8.toList)) else (some false)) else (some false)))) else (some false))))
def longcaselaw06_BlockReads.f (k : Nat) (l0 : List Int) (a1_0 : Int) (a1_1 : Int) (a1_2 : Int) (a1_3 : Int) (a1_4 : Int) (a1_5 : Int) (a1_6 : Int) (a2 : Int) : Option (Bool) := (longcaselaw06_shown.f).bind fun t102 => (if 0 ≤ (mn (l0.length : Int) 2000) then (if (mn (l0.length : Int) 2000) ≤ (l0.length : Int) then ((header_Right.f a1_0 a1_1 a1_2 a1_3 a1_4 a1_5 a1_6).bind fun t104 => (if t104 = true then (if a1_4 > 60 then (longcaselaw06_BlockReads.j0 k (l0.take ((mn (l0.length : Int) 2000) : Int).toNat) a2 t102 (strOfNums (l0.take ((mn (l0.length : Int) 2000) : Int).toNat)) true a1_0 a1_1 a1_2 a1_3 a1_4 a1_5 a1_6) else (longcaselaw06_BlockReads.j0 k (l0.take ((mn (l0.length : Int) 2000) : Int).toNat) a2 t102 (strOfNums (l0.take ((mn (l0.length : Int) 2000) : Int).toNat)) (decide (a1_3 > 60)) a1_0 a1_1 a1_2 a1_3 a1_4 a1_5 a1_6)) else (longcaselaw06_BlockReads.j0 k (l0.take ((mn (l0.length : Int) 2000) : Int).toNat) a2 t102 (strOfNums (l0.take ((mn (l0.length : Int) 2000) : Int).toNat)) false a1_0 a1_1 a1_2 a1_3 a1_4 a1_5 a1_6))) else (none)) else (none))
def longcaselaw06_BlockReads.T8 : Bool × List (List Nat × List Nat) := (true, [([], []), ([0], [0]), ([1], [1]), ([2, 1, 1], [1, 2]), ([1], [1]), ([3, 4, 3, 1], [1, 3, 4]), ([1, 5], [1, 5]), ([6, 5], [6]), ([7], [7]), ([7], [7]), ([8, 9, 7], [7, 8, 9]), ([7, 10], [7, 10]), ([11, 7], [11]), ([12], [12]), ([13, 12], [12, 13]), ([12], [12]), ([14, 15, 12], [12, 14, 15]), ([12, 16], [12, 16]), ([17, 12, 0, 1, 2, 3, 4, 5, 6, 7, 8, 9, 10, 11, 12, 13, 14, 15, 16, 17], [17])])
def longcaselaw06_BlockReads.B8 : List Nat := [0, 1, 3, 7, 3, 31, 63, 127, 255, 255, 1023, 2047, 4095, 8191, 16383, 8191, 65535, 131071, 262143]
theorem longcaselaw06_BlockReads.tab8 : rtab .any (opsOf Try.f4 8) = longcaselaw06_BlockReads.T8 := by kernel_rfl
theorem longcaselaw06_BlockReads.bits8 : waitsOk longcaselaw06_BlockReads.T8.2 longcaselaw06_BlockReads.B8 = true := by kernel_rfl
set_option maxHeartbeats 8000000 in
set_option maxRecDepth 100000 in
theorem longcaselaw06_BlockReads.calls (k : Nat) (A0 : Option Addr) (c0 : Nat) (l0 : List Int) (a1_0 : Int) (a1_1 : Int) (a1_2 : Int) (a1_3 : Int) (a1_4 : Int) (a1_5 : Int) (a1_6 : Int) (a2 : Int) (r : Bool) (w : World) (hr0 : Kd.C (Kd.int .u8) w A0 l0.length l0) (hc0 : l0.length ≤ c0) (h : longcaselaw06_BlockReads.f k l0 a1_0 a1_1 a1_2 a1_3 a1_4 a1_5 a1_6 a2 = some r) (hRT : r = true) :
  Calls Try.prog 4 #[.slice A0 l0.length c0, .agg #[.int .i64 a1_0, .int .i64 a1_1, .int .i64 a1_2, .int .i64 a1_3, .int .i64 a1_4, .int .i64 a1_5, .int .i64 a1_6], .int .i64 a2] w fun e w' => e = .returned (.bool r) ∧ Below w.heap.size w w' := by
 have HRT := Aside0.mk hRT
 clear hRT
 have hu35 := Try.underlying35
 have hu27 := Try.underlying27
 have hu31 := Try.underlying31
 have HR0 := Aside0.mk hr0
 have HC0 := Aside0.mk hc0
 clear hr0 hc0
 have HB := Aside0.mk (Below.refl w.heap.size w)
 have H : ((longcaselaw06_shown.f).bind fun t102 => (if 0 ≤ (mn (l0.length : Int) 2000) then (if (mn (l0.length : Int) 2000) ≤ (l0.length : Int) then ((header_Right.f a1_0 a1_1 a1_2 a1_3 a1_4 a1_5 a1_6).bind fun t104 => (if t104 = true then (if a1_4 > 60 then (longcaselaw06_BlockReads.j0 k (l0.take ((mn (l0.length : Int) 2000) : Int).toNat) a2 t102 (strOfNums (l0.take ((mn (l0.length : Int) 2000) : Int).toNat)) true a1_0 a1_1 a1_2 a1_3 a1_4 a1_5 a1_6) else (longcaselaw06_BlockReads.j0 k (l0.take ((mn (l0.length : Int) 2000) : Int).toNat) a2 t102 (strOfNums (l0.take ((mn (l0.length : Int) 2000) : Int).toNat)) (decide (a1_3 > 60)) a1_0 a1_1 a1_2 a1_3 a1_4 a1_5 a1_6)) else (longcaselaw06_BlockReads.j0 k (l0.take ((mn (l0.length : Int) 2000) : Int).toNat) a2 t102 (strOfNums (l0.take ((mn (l0.length : Int) 2000) : Int).toNat)) false a1_0 a1_1 a1_2 a1_3 a1_4 a1_5 a1_6))) else (none)) else (none))) = some r := h
 clear h
 replace H := Option.bind_eq_some_iff.mp H
 obtain ⟨t102, A40, H⟩ := H
 try dsimp only at H
 have A4 := Aside0.mk A40
 clear A40
 obtain ⟨ji5, hji5⟩ : ∃ j_ : Int, (mn (l0.length : Int) 2000) = j_ := ⟨_, rfl⟩
 replace H : (if 0 ≤ (ji5) then (if (ji5) ≤ (l0.length : Int) then ((header_Right.f a1_0 a1_1 a1_2 a1_3 a1_4 a1_5 a1_6).bind fun t104 => (if t104 = true then (if a1_4 > 60 then (longcaselaw06_BlockReads.j0 k (l0.take ((ji5) : Int).toNat) a2 t102 (strOfNums (l0.take ((ji5) : Int).toNat)) true a1_0 a1_1 a1_2 a1_3 a1_4 a1_5 a1_6) else (longcaselaw06_BlockReads.j0 k (l0.take ((ji5) : Int).toNat) a2 t102 (strOfNums (l0.take ((ji5) : Int).toNat)) (decide (a1_3 > 60)) a1_0 a1_1 a1_2 a1_3 a1_4 a1_5 a1_6)) else (longcaselaw06_BlockReads.j0 k (l0.take ((ji5) : Int).toNat) a2 t102 (strOfNums (l0.take ((ji5) : Int).toNat)) false a1_0 a1_1 a1_2 a1_3 a1_4 a1_5 a1_6))) else (none)) else (none)) = some r := by first | (rw [hji5] at H; exact H) | (simp only [hji5] at H ⊢; exact H)
 (try rw [hji5] at A4)
 (try (have hji5h : ji5 ≤ 2000 := by (rw [← hji5]; unfold mn; (repeat' split) <;> omega)))
 (try (have hji5g : ji5 ≤ 64 := by omega))
 (try (have hji5l : 0 ≤ ji5 := by (rw [← hji5]; unfold mn; (repeat' split) <;> omega)))
 (try (have hji5m : 0 ≤ ji5 := by omega))
 have hji5_ : (if 2000 < (l0.length : Int) then 2000 else (l0.length : Int)) = ji5 := hji5
 by_cases c6 : 0 ≤ (ji5)
 rotate_left
 ·
  rw [if_neg c6] at H
  exact absurd H (by simp)
 rw [if_pos c6] at H
 have c6b0 := eq_true c6
 have c6b1 : decide (0 ≤ (ji5)) = true := decide_eq_true c6
 clear c6
 by_cases c7 : (ji5) ≤ (l0.length : Int)
 rotate_left
 ·
  rw [if_neg c7] at H
  exact absurd H (by simp)
 rw [if_pos c7] at H
 have c7b0 := eq_true c7
 have c7b1 : decide ((ji5) ≤ (l0.length : Int)) = true := decide_eq_true c7
 clear c7
 have HC8 := Aside0.mk H
 clear H
 have HLN : Aside0 ((l0.take ji5.toNat).length = ji5.toNat) := ⟨by rw [List.length_take]; have h_ := of_eq_true c7b0; have h2_ := of_eq_true c6b0; omega⟩
 go_enter Try.func4, Try.ntmps4
 go_upto_region 4 with (first | ((with_reducible refine gate_dst (N := 4) rfl ?_); refine box_event ?hg (N := 4) ?hd (cs := #[.int .i64 a1_0, .int .i64 a1_1, .int .i64 a1_2, .int .i64 a1_3, .int .i64 a1_4, .int .i64 a1_5, .int .i64 a1_6]) (t := 35) ?hr ?_; (case hd => rfl); (case hg => rfl); (case hr => first | (go_simp; done) | (go_simp; rfl)); intro gb101 hg w9 hbox hb; have BK101 := Aside0.mk (hbox); have GW101 := Aside0.mk ((by rw [hg]; exact (below_size (Sq.kl HB)) : w.heap.size ≤ gb101)); have GE101 := Aside0.mk ((by rw [hg]; exact (below_size (Sq.kl HB)) : w.heap.size ≤ gb101)); replace HB := Aside0.mk (below_step (Sq.kl HB) hb); clear hb hbox hg) | ((with_reducible refine gate_callee (f := 11) rfl ?_); refine goesL_ (some 13) rfl rfl Try.func11 (by kernel_rfl) rfl #[] rfl (by (try simp only [List.map_toArray, List.map_cons, List.map_nil]); first | done | rfl | (simp only [List.length_drop, List.length_take]; rfl)) ?_; (with_reducible refine (longcaselaw06_shown.calls  t102 _ A4.out).mono ?_); rintro e w10 ⟨rfl, hb⟩; refine ⟨_, rfl, ?_⟩; replace BK101 := kbb BK101 hb; replace HB := Aside0.mk (below_step (Sq.kl1 HB GE101) hb); (try clear hb); obtain ⟨i011, hi011, _, hsz11, _⟩ := info_parts info5; obtain ⟨hcut11, hA11, hC11⟩ := print_take_of (P := Try.prog) (Value.int .u8) 0 33 5 .i64 Try.underlying33 hi011 hsz11 A0 c0 l0 (ji5) (of_decide_eq_true (by first | (with_reducible assumption) | assumption)) (of_decide_eq_true (by first | (with_reducible assumption) | assumption)) HC0.out; have HR103 := Aside0.mk (Kd.C_of_reads (h1 := fun _ => rfl) (hA11 _ (Kd.reads_of_C HR0.out))); have HC103 := Aside0.mk hC11; clear hA11 hC11 hi011 hsz11; have hcv12 := Kd.C_string (P := Try.prog) (A := A0) (c := c0) Try.underlying33 Try.underlying5 Try.underlying9 (Kd.C_below HR103.out HB.out); rw [HLN.out] at hcv12))
 (try simp only [Act.put, List.setIfInBounds_toArray, List.set_cons_zero, List.set_cons_succ])
 go_cut [32] (fun v32 wc => ∃ (kq : Nat) (x32_7 : Bool), v32 = .bool x32_7 ∧ Aside0 (longcaselaw06_BlockReads.j0 kq (l0.take ((ji5) : Int).toNat) a2 t102 (strOfNums (l0.take ((ji5) : Int).toNat)) x32_7 a1_0 a1_1 a1_2 a1_3 a1_4 a1_5 a1_6 = some r) ∧ Aside0 (kq ≤ k) ∧ Aside0 (wc.heap[gb101]? = some (.cells #[.int .i64 a1_0, .int .i64 a1_1, .int .i64 a1_2, .int .i64 a1_3, .int .i64 a1_4, .int .i64 a1_5, .int .i64 a1_6] 35 (0, 0))) ∧ Aside0 (Below w.heap.size w wc))
 case first =>
  have H := HC8.out
  clear HC8
  replace H := Option.bind_eq_some_iff.mp H
  obtain ⟨t104, A130, H⟩ := H
  try dsimp only at H
  have A13 := Aside0.mk A130
  clear A130
  by_cases c14 : t104 = true
  rotate_left
  ·
   replace c14 := Bool.eq_false_iff.mpr c14
   subst c14
   rw [if_neg (show ¬ (false = true) by decide)] at H
   have H' := Aside0.mk H
   clear H
   obtain ⟨hcz22_0, hcz22_1, hcz22_2, hcz22_3, hcz22_4, hcz22_5, hcz22_6⟩ := Sq.c7 BK101
   obtain ⟨hfz22_0, hfz22_1, hfz22_2, hfz22_3, hfz22_4, hfz22_5, hfz22_6⟩ := Sq.z7 BK101
   go_wp2_with (first | ((with_reducible refine gate_callee (f := 19) rfl ?_); refine goesL_ (some 22) rfl rfl Try.func19 (by kernel_rfl) rfl #[.agg #[.int .i64 a1_0, .int .i64 a1_1, .int .i64 a1_2, .int .i64 a1_3, .int .i64 a1_4, .int .i64 a1_5, .int .i64 a1_6]] rfl (by (try simp only [List.map_toArray, List.map_cons, List.map_nil]); first | done | rfl | (simp only [List.length_drop, List.length_take]; rfl)) ?_; (with_reducible refine (header_Right.calls a1_0 a1_1 a1_2 a1_3 a1_4 a1_5 a1_6 false _ A13.out).mono ?_); rintro e w23 ⟨rfl, hb⟩; refine ⟨_, rfl, ?_⟩; replace BK101 := kbb BK101 hb; replace HB := Aside0.mk (below_step (Sq.kl1 HB GE101) hb); (try clear hb)))
   go_meet
   case rel => exact ⟨_, (false), (by first | rfl | (simp; done) | (simp [*]; done)), H', ⟨by first | omega | exact Nat.le_refl _⟩, ⟨Sq.kb BK101⟩, ⟨Sq.kl1 HB GE101⟩⟩
  subst c14
  rw [if_pos rfl] at H
  by_cases c15 : a1_4 > 60
  ·
   rw [if_pos c15] at H
   have c15b0 : decide (60 < a1_4) = true := decide_eq_true c15
   clear c15
   (first | rw [c15b0] | rw [c15b1] | (simp only [i64_w, i32_w]; rw [c15b0]) | skip)
   have H' := Aside0.mk H
   clear H
   obtain ⟨hcz16_0, hcz16_1, hcz16_2, hcz16_3, hcz16_4, hcz16_5, hcz16_6⟩ := Sq.c7 BK101
   obtain ⟨hfz16_0, hfz16_1, hfz16_2, hfz16_3, hfz16_4, hfz16_5, hfz16_6⟩ := Sq.z7 BK101
   go_wp2_with (first | ((with_reducible refine gate_callee (f := 19) rfl ?_); refine goesL_ (some 22) rfl rfl Try.func19 (by kernel_rfl) rfl #[.agg #[.int .i64 a1_0, .int .i64 a1_1, .int .i64 a1_2, .int .i64 a1_3, .int .i64 a1_4, .int .i64 a1_5, .int .i64 a1_6]] rfl (by (try simp only [List.map_toArray, List.map_cons, List.map_nil]); first | done | rfl | (simp only [List.length_drop, List.length_take]; rfl)) ?_; (with_reducible refine (header_Right.calls a1_0 a1_1 a1_2 a1_3 a1_4 a1_5 a1_6 true _ A13.out).mono ?_); rintro e w17 ⟨rfl, hb⟩; refine ⟨_, rfl, ?_⟩; replace BK101 := kbb BK101 hb; replace HB := Aside0.mk (below_step (Sq.kl1 HB GE101) hb); (try clear hb); obtain ⟨hcz18_0, hcz18_1, hcz18_2, hcz18_3, hcz18_4, hcz18_5, hcz18_6⟩ := Sq.c7 BK101; obtain ⟨hfz18_0, hfz18_1, hfz18_2, hfz18_3, hfz18_4, hfz18_5, hfz18_6⟩ := Sq.z7 BK101))
   go_meet
   case rel => exact ⟨_, (true), (by first | rfl | (simp; done) | (simp [*]; done)), H', ⟨by first | omega | exact Nat.le_refl _⟩, ⟨Sq.kb BK101⟩, ⟨Sq.kl1 HB GE101⟩⟩
  rw [if_neg c15] at H
  have c15b0 : decide (60 < a1_4) = false := decide_eq_false c15
  clear c15
  (first | rw [c15b0] | rw [c15b1] | (simp only [i64_w, i32_w]; rw [c15b0]) | skip)
  have H' := Aside0.mk H
  clear H
  obtain ⟨hcz19_0, hcz19_1, hcz19_2, hcz19_3, hcz19_4, hcz19_5, hcz19_6⟩ := Sq.c7 BK101
  obtain ⟨hfz19_0, hfz19_1, hfz19_2, hfz19_3, hfz19_4, hfz19_5, hfz19_6⟩ := Sq.z7 BK101
  go_wp2_with (first | ((with_reducible refine gate_callee (f := 19) rfl ?_); refine goesL_ (some 22) rfl rfl Try.func19 (by kernel_rfl) rfl #[.agg #[.int .i64 a1_0, .int .i64 a1_1, .int .i64 a1_2, .int .i64 a1_3, .int .i64 a1_4, .int .i64 a1_5, .int .i64 a1_6]] rfl (by (try simp only [List.map_toArray, List.map_cons, List.map_nil]); first | done | rfl | (simp only [List.length_drop, List.length_take]; rfl)) ?_; (with_reducible refine (header_Right.calls a1_0 a1_1 a1_2 a1_3 a1_4 a1_5 a1_6 true _ A13.out).mono ?_); rintro e w20 ⟨rfl, hb⟩; refine ⟨_, rfl, ?_⟩; replace BK101 := kbb BK101 hb; replace HB := Aside0.mk (below_step (Sq.kl1 HB GE101) hb); (try clear hb); obtain ⟨hcz21_0, hcz21_1, hcz21_2, hcz21_3, hcz21_4, hcz21_5, hcz21_6⟩ := Sq.c7 BK101; obtain ⟨hfz21_0, hfz21_1, hfz21_2, hfz21_3, hfz21_4, hfz21_5, hfz21_6⟩ := Sq.z7 BK101))
  go_meet
  case rel => exact ⟨_, (decide (a1_3 > 60)), (by first | rfl | (simp; done) | (simp [*]; done)), H', ⟨by first | omega | exact Nat.le_refl _⟩, ⟨Sq.kb BK101⟩, ⟨Sq.kl1 HB GE101⟩⟩
 clear HC8
 try clear c1
 try clear hcv1
 try clear p2
 try clear c4
 try clear c6
 try clear c6b0
 try clear c6b1
 try clear c7
 try clear c7b0
 try clear c7b1
 try clear c11
 try clear hcv12
 try clear c14
 try clear c15
 try clear c15b0
 try clear c19
 try clear hcz16_0
 try clear hcz16_1
 try clear hcz16_2
 try clear hcz16_3
 try clear hcz16_4
 try clear hcz16_5
 try clear hcz16_6
 try clear hcz18_0
 try clear hcz18_1
 try clear hcz18_2
 try clear hcz18_3
 try clear hcz18_4
 try clear hcz18_5
 try clear hcz18_6
 try clear hcz19_0
 try clear hcz19_1
 try clear hcz19_2
 try clear hcz19_3
 try clear hcz19_4
 try clear hcz19_5
 try clear hcz19_6
 try clear hcz21_0
 try clear hcz21_1
 try clear hcz21_2
 try clear hcz21_3
 try clear hcz21_4
 try clear hcz21_5
 try clear hcz21_6
 try clear hcz22_0
 try clear hcz22_1
 try clear hcz22_2
 try clear hcz22_3
 try clear hcz22_4
 try clear hcz22_5
 try clear hcz22_6
 try clear hfz16_0
 try clear hfz16_1
 try clear hfz16_2
 try clear hfz16_3
 try clear hfz16_4
 try clear hfz16_5
 try clear hfz16_6
 try clear hfz18_0
 try clear hfz18_1
 try clear hfz18_2
 try clear hfz18_3
 try clear hfz18_4
 try clear hfz18_5
 try clear hfz18_6
 try clear hfz19_0
 try clear hfz19_1
 try clear hfz19_2
 try clear hfz19_3
 try clear hfz19_4
 try clear hfz19_5
 try clear hfz19_6
 try clear hfz21_0
 try clear hfz21_1
 try clear hfz21_2
 try clear hfz21_3
 try clear hfz21_4
 try clear hfz21_5
 try clear hfz21_6
 try clear hfz22_0
 try clear hfz22_1
 try clear hfz22_2
 try clear hfz22_3
 try clear hfz22_4
 try clear hfz22_5
 try clear hfz22_6
 obtain ⟨kq, x32_7, rfl, HA, HJ7, BK101, HB⟩ := hcut
 cases kq with
 | zero => exact absurd HA.out (by simp [longcaselaw06_BlockReads.j0])
 | succ kj7 =>
  have H := HA.out
  clear HA
  simp only [longcaselaw06_BlockReads.j0] at H
  by_cases c24 : x32_7 = true
  ·
   subst c24
   rw [if_pos rfl] at H
   obtain rfl := Option.some.inj H
   go_wp2
   go_ret
   exact ⟨by first | rfl | (simp [errW_none, errW_some] <;> rfl) | (simp only [← hji5]; first | rfl | (simp [errW_none, errW_some] <;> rfl)) | (simp [*, errW_none, errW_some] <;> rfl), by repeat (first | (with_reducible first | exact HB.out | apply below_alloc | apply pw_below_drewN | apply below_drew1 | refine below_set ?_ GE101.out) | exact HB.out)⟩
  replace c24 := Bool.eq_false_iff.mpr c24
  subst c24
  rw [if_neg (show ¬ (false = true) by decide)] at H
  replace H := Option.bind_eq_some_iff.mp H
  obtain ⟨⟨t105, t108, t111, t114, t117, t120⟩, A250, H⟩ := H
  try dsimp only at H
  have A25 := Aside0.mk A250
  clear A250
  replace H := Option.bind_eq_some_iff.mp H
  obtain ⟨⟨t122, t125, t128, t131, t134, t137⟩, A260, H⟩ := H
  try dsimp only at H
  have A26 := Aside0.mk A260
  clear A260
  by_cases c27 : t102 = true
  rotate_left
  ·
   replace c27 := Bool.eq_false_iff.mpr c27
   subst c27
   rw [if_neg (show ¬ (false = true) by decide)] at H
   exact Bool.noConfusion ((Option.some.inj H).trans HRT.out)
  subst c27
  rw [if_pos rfl] at H
  replace H := Option.bind_eq_some_iff.mp H
  obtain ⟨⟨t139, t142, t145, t148, t151⟩, A280, H⟩ := H
  replace H : ((longcaseref06_Same.f t139 t142 t145 t148 t151 t122 t125 t128 t131 t134).bind fun t154 => (if t154 = true then (if t120 = t137 then (some ((strOfNums (l0.take ((ji5) : Int).toNat)).toList == (strOfNums (l0.take ((ji5) : Int).toNat)).toList)) else (some false)) else (some false))) = some r := H
  have A28 := Aside0.mk A280
  clear A280
  replace H := Option.bind_eq_some_iff.mp H
  obtain ⟨t154, A290, H⟩ := H
  replace H : (if t154 = true then (if t120 = t137 then (some ((strOfNums (l0.take ((ji5) : Int).toNat)).toList == (strOfNums (l0.take ((ji5) : Int).toNat)).toList)) else (some false)) else (some false)) = some r := H
  have A29 := Aside0.mk A290
  clear A290
  by_cases c30 : t154 = true
  rotate_left
  ·
   replace c30 := Bool.eq_false_iff.mpr c30
   subst c30
   rw [if_neg (show ¬ (false = true) by decide)] at H
   exact Bool.noConfusion ((Option.some.inj H).trans HRT.out)
  subst c30
  rw [if_pos rfl] at H
  by_cases c31 : t120 = t137
  rotate_left
  ·
   rw [if_neg c31] at H
   have c31b0 : (t120 == t137) = false := beq_eq_false_iff_ne.mpr c31
   have c31b1 : (t120 != t137) = true := bne_iff_ne.mpr c31
   exact Bool.noConfusion ((Option.some.inj H).trans HRT.out)
  rw [if_pos c31] at H
  have c31b0 : (t120 == t137) = true := beq_iff_eq.mpr c31
  have c31b1 : (t120 != t137) = false := bne_eq_false_iff_eq.mpr c31
  clear c31
  obtain rfl := Option.some.inj H
  obtain ⟨hcz32_0, hcz32_1, hcz32_2, hcz32_3, hcz32_4, hcz32_5, hcz32_6⟩ := Sq.c7 BK101
  obtain ⟨hfz32_0, hfz32_1, hfz32_2, hfz32_3, hfz32_4, hfz32_5, hfz32_6⟩ := Sq.z7 BK101
  try go_wp2_with (first | ((with_reducible refine gate_callee (f := 21) rfl ?_); refine goesL_ (some 38) rfl rfl Try.func21 (by kernel_rfl) rfl #[.slice A0 (l0.take ((ji5) : Int).toNat).length c0, .agg #[.int .i64 a1_0, .int .i64 a1_1, .int .i64 a1_2, .int .i64 a1_3, .int .i64 a1_4, .int .i64 a1_5, .int .i64 a1_6], .int .i64 a2] rfl (by (try simp only [List.map_toArray, List.map_cons, List.map_nil]); first | done | (rw [show (l0.take ((ji5) : Int).toNat).length = (ji5).toNat from (by rw [List.length_take]; first | (have h_ : ((ji5) : Int) ≤ (l0.length : Int) := of_decide_eq_true (by first | (with_reducible assumption) | assumption); omega) | (have h_ := hji5_; (repeat' split at h_) <;> omega))] <;> rfl) | (simp only [hji5]; rfl) | rfl | (simp only [List.length_drop, List.length_take]; rfl)) ?_; (with_reducible refine (block_Decode.calls _ _ (l0.take ((ji5) : Int).toNat) a1_0 a1_1 a1_2 a1_3 a1_4 a1_5 a1_6 a2 t105 t108 t111 t114 t117 t120 _ ?side1 ?side2 A25.out).mono ?_); (case side1 => exact Sq.qd HR103 HB); (case side2 => exact HC103.out); rintro e w33 ⟨v106, v109, v112, v115, v118, rfl, ho0, ho1, ho2, ho3, ho4, hb⟩; refine ⟨_, rfl, ?_⟩; have HO107 := Aside0.mk (Kd.R_lower ho0 (below_size (Sq.kl1 HB GE101))); have HO110 := Aside0.mk (Kd.R_lower ho1 (below_size (Sq.kl1 HB GE101))); have HO113 := Aside0.mk (Kd.R_lower ho2 (below_size (Sq.kl1 HB GE101))); have HO116 := Aside0.mk (Kd.R_lower ho3 (below_size (Sq.kl1 HB GE101))); have HO119 := Aside0.mk (Kd.R_lower ho4 (below_size (Sq.kl1 HB GE101))); replace BK101 := kbb BK101 hb; replace HB := Aside0.mk (below_step (Sq.kl1 HB GE101) hb); (try clear hb); (try clear ho0); (try clear ho1); (try clear ho2); (try clear ho3); (try clear ho4)) | ((with_reducible refine gate_dst (N := 9) rfl ?_); refine box_event ?hg (N := 9) ?hd (cs := #[.slice none 0 0, .slice none 0 0, .slice none 0 0, .slice none 0 0, .slice none 0 0]) (t := 27) ?hr ?_; (case hd => rfl); (case hg => rfl); (case hr => first | (go_simp; done) | (go_simp; rfl)); intro gb121 hg w34 hbox hb; replace HO107 := krb HO107 hb; replace HO110 := krb HO110 hb; replace HO113 := krb HO113 hb; replace HO116 := krb HO116 hb; replace HO119 := krb HO119 hb; have BK121 := Aside0.mk (hbox); have GW121 := Aside0.mk ((by rw [hg]; exact (below_size (Sq.kl1 HB GE101)) : w.heap.size ≤ gb121)); have GE121 := Aside0.mk ((by rw [hg]; exact (below_size (Sq.kl1 HB GE101)) : w.heap.size ≤ gb121)); replace HB := Aside0.mk (below_step (Sq.kl1 HB GE101) hb); have NB101_121 := Aside0.mk ((by rw [hg]; exact Nat.ne_of_lt (blk_lt (kb BK101)) : gb101 ≠ gb121)); have NB121_101 := Aside0.mk ((by rw [hg]; exact Nat.ne_of_gt (blk_lt (kb BK101)) : gb121 ≠ gb101)); replace BK101 := kbb BK101 hb; clear hb hbox hg; obtain ⟨Ao35, co35, eo35⟩ := Kd.R_slice HO107.out; subst eo35; have hnb36 := NB121_101.out; have hnc36 := NB101_121.out; obtain ⟨hcz37_0, hcz37_1, hcz37_2, hcz37_3, hcz37_4⟩ := Sq.c5 BK121; obtain ⟨hfz37_0, hfz37_1, hfz37_2, hfz37_3, hfz37_4⟩ := Sq.z5 BK121; obtain ⟨Ao38, co38, eo38⟩ := Kd.R_slice HO110.out; subst eo38; obtain ⟨Ao39, co39, eo39⟩ := Kd.R_slice HO113.out; subst eo39; obtain ⟨Ao40, co40, eo40⟩ := Kd.R_slice HO116.out; subst eo40; obtain ⟨Ao41, co41, eo41⟩ := Kd.R_slice HO119.out; subst eo41; obtain ⟨hcz42_0, hcz42_1, hcz42_2, hcz42_3, hcz42_4, hcz42_5, hcz42_6⟩ := Sq.c7 BK101; obtain ⟨hfz42_0, hfz42_1, hfz42_2, hfz42_3, hfz42_4, hfz42_5, hfz42_6⟩ := Sq.z7 BK101) | ((with_reducible refine gate_callee (f := 22) rfl ?_); refine goesL_ (some 45) rfl rfl Try.func22 (by kernel_rfl) rfl #[.slice A0 (l0.take ((ji5) : Int).toNat).length c0, .agg #[.int .i64 a1_0, .int .i64 a1_1, .int .i64 a1_2, .int .i64 a1_3, .int .i64 a1_4, .int .i64 a1_5, .int .i64 a1_6], .int .i64 a2] rfl (by (try simp only [List.map_toArray, List.map_cons, List.map_nil]); first | done | (rw [show (l0.take ((ji5) : Int).toNat).length = (ji5).toNat from (by rw [List.length_take]; first | (have h_ : ((ji5) : Int) ≤ (l0.length : Int) := of_decide_eq_true (by first | (with_reducible assumption) | assumption); omega) | (have h_ := hji5_; (repeat' split at h_) <;> omega))] <;> rfl) | (simp only [hji5]; rfl) | rfl | (simp only [List.length_drop, List.length_take]; rfl)) ?_; (with_reducible refine (longcaseref06_Decode.calls _ _ (l0.take ((ji5) : Int).toNat) a1_0 a1_1 a1_2 a1_3 a1_4 a1_5 a1_6 a2 t122 t125 t128 t131 t134 t137 _ ?side1 ?side2 A26.out).mono ?_); (case side1 => exact Kd.C_below HR103.out (Sq.kl2 HB GE101 GE121)); (case side2 => exact HC103.out); rintro e w43 ⟨v123, v126, v129, v132, v135, rfl, ho0, ho1, ho2, ho3, ho4, hb⟩; refine ⟨_, rfl, ?_⟩; have HO124 := Aside0.mk (Kd.R_lower (Kd.R_new' ho0 (Kd.R_lt (by (with_reducible repeat (first | apply Kd.R_alloc | apply Kd.R_drewN | apply Kd.R_drew)); exact (rp5 HO107 BK121)))) (below_size (Sq.kl2 HB GE101 GE121))); replace HO107 := Aside0.mk (Kd.R_elder' (by (with_reducible repeat (first | apply Kd.R_alloc | apply Kd.R_drewN | apply Kd.R_drew)); exact (rp5 HO107 BK121)) (Kd.R_base ho0) hb); have HO127 := Aside0.mk (Kd.R_lower (Kd.R_new' ho1 (Kd.R_lt (by (with_reducible repeat (first | apply Kd.R_alloc | apply Kd.R_drewN | apply Kd.R_drew)); exact (rp5 HO110 BK121)))) (below_size (Sq.kl2 HB GE101 GE121))); replace HO110 := Aside0.mk (Kd.R_elder' (by (with_reducible repeat (first | apply Kd.R_alloc | apply Kd.R_drewN | apply Kd.R_drew)); exact (rp5 HO110 BK121)) (Kd.R_base ho1) hb); have HO130 := Aside0.mk (Kd.R_lower (Kd.R_new' ho2 (Kd.R_lt (by (with_reducible repeat (first | apply Kd.R_alloc | apply Kd.R_drewN | apply Kd.R_drew)); exact (rp5 HO113 BK121)))) (below_size (Sq.kl2 HB GE101 GE121))); replace HO113 := Aside0.mk (Kd.R_elder' (by (with_reducible repeat (first | apply Kd.R_alloc | apply Kd.R_drewN | apply Kd.R_drew)); exact (rp5 HO113 BK121)) (Kd.R_base ho2) hb); have HO133 := Aside0.mk (Kd.R_lower (Kd.R_new' (Kd.R_new' ho3 (Kd.R_lt (by (with_reducible repeat (first | apply Kd.R_alloc | apply Kd.R_drewN | apply Kd.R_drew)); exact (rp5 HO116 BK121)))) (Kd.R_lt (by (with_reducible repeat (first | apply Kd.R_alloc | apply Kd.R_drewN | apply Kd.R_drew)); exact (rp5 HO119 BK121)))) (below_size (Sq.kl2 HB GE101 GE121))); have HO136 := Aside0.mk (Kd.R_lower (Kd.R_new' (Kd.R_new' ho4 (Kd.R_lt (by (with_reducible repeat (first | apply Kd.R_alloc | apply Kd.R_drewN | apply Kd.R_drew)); exact (rp5 HO116 BK121)))) (Kd.R_lt (by (with_reducible repeat (first | apply Kd.R_alloc | apply Kd.R_drewN | apply Kd.R_drew)); exact (rp5 HO119 BK121)))) (below_size (Sq.kl2 HB GE101 GE121))); replace HO116 := Aside0.mk (Kd.R_mono (Kd.R_told (Kd.R_told (Kd.R_old (by (with_reducible repeat (first | apply Kd.R_alloc | apply Kd.R_drewN | apply Kd.R_drew)); exact (rp5 HO116 BK121)) hb) (Kd.R_base ho3)) (Kd.R_base ho4)) (fun _ h_ => h_.1)); replace HO119 := Aside0.mk (Kd.R_mono (Kd.R_told (Kd.R_told (Kd.R_old (by (with_reducible repeat (first | apply Kd.R_alloc | apply Kd.R_drewN | apply Kd.R_drew)); exact (rp5 HO119 BK121)) hb) (Kd.R_base ho3)) (Kd.R_base ho4)) (fun _ h_ => h_.1)); replace BK101 := Aside0.mk (blk_below (g := gb101) (o := .cells #[.int .i64 a1_0, .int .i64 a1_1, .int .i64 a1_2, .int .i64 a1_3, .int .i64 a1_4, .int .i64 a1_5, .int .i64 a1_6] 35 (0, 0)) (by (with_reducible repeat (first | refine blk_drewN ?_ _ | refine blk_drew ?_ | refine blk_alloc ?_ _)); refine blk_far ?_ NB101_121.out _; (with_reducible repeat (first | refine blk_drewN ?_ _ | refine blk_drew ?_ | refine blk_alloc ?_ _)); refine blk_far ?_ NB101_121.out _; (with_reducible repeat (first | refine blk_drewN ?_ _ | refine blk_drew ?_ | refine blk_alloc ?_ _)); refine blk_far ?_ NB101_121.out _; (with_reducible repeat (first | refine blk_drewN ?_ _ | refine blk_drew ?_ | refine blk_alloc ?_ _)); refine blk_far ?_ NB101_121.out _; (with_reducible repeat (first | refine blk_drewN ?_ _ | refine blk_drew ?_ | refine blk_alloc ?_ _)); refine blk_far ?_ NB101_121.out _; exact Sq.kb BK101) hb); replace BK121 := Aside0.mk (blk_below (g := gb121) (o := .cells #[.slice Ao35 t105.length co35, .slice Ao38 t108.length co38, .slice Ao39 t111.length co39, .slice Ao40 t114.length co40, .slice Ao41 t117.length co41] 27 (0, 0)) (by (with_reducible repeat (first | refine blk_drewN ?_ _ | refine blk_drew ?_ | refine blk_alloc ?_ _)); refine blk_put (cs := #[.slice Ao35 t105.length co35, .slice Ao38 t108.length co38, .slice Ao39 t111.length co39, .slice Ao40 t114.length co40, .slice none 0 0]) ?_ 4 _ rfl; (with_reducible repeat (first | refine blk_drewN ?_ _ | refine blk_drew ?_ | refine blk_alloc ?_ _)); refine blk_put (cs := #[.slice Ao35 t105.length co35, .slice Ao38 t108.length co38, .slice Ao39 t111.length co39, .slice none 0 0, .slice none 0 0]) ?_ 3 _ rfl; (with_reducible repeat (first | refine blk_drewN ?_ _ | refine blk_drew ?_ | refine blk_alloc ?_ _)); refine blk_put (cs := #[.slice Ao35 t105.length co35, .slice Ao38 t108.length co38, .slice none 0 0, .slice none 0 0, .slice none 0 0]) ?_ 2 _ rfl; (with_reducible repeat (first | refine blk_drewN ?_ _ | refine blk_drew ?_ | refine blk_alloc ?_ _)); refine blk_put (cs := #[.slice Ao35 t105.length co35, .slice none 0 0, .slice none 0 0, .slice none 0 0, .slice none 0 0]) ?_ 1 _ rfl; (with_reducible repeat (first | refine blk_drewN ?_ _ | refine blk_drew ?_ | refine blk_alloc ?_ _)); refine blk_put (cs := #[.slice none 0 0, .slice none 0 0, .slice none 0 0, .slice none 0 0, .slice none 0 0]) ?_ 0 _ rfl; exact Sq.kb BK121) hb); replace HB := Aside0.mk (below_step (Sq.kl2 HB GE101 GE121) hb); (try clear hb); (try clear ho0); (try clear ho1); (try clear ho2); (try clear ho3); (try clear ho4)) | ((with_reducible refine gate_dst (N := 11) rfl ?_); refine box_event ?hg (N := 11) ?hd (cs := #[.slice none 0 0, .slice none 0 0, .slice none 0 0, .slice none 0 0, .slice none 0 0]) (t := 31) ?hr ?_; (case hd => rfl); (case hg => rfl); (case hr => first | (go_simp; done) | (go_simp; rfl)); intro gb138 hg w44 hbox hb; replace HO107 := krb HO107 hb; replace HO110 := krb HO110 hb; replace HO113 := krb HO113 hb; replace HO116 := krb HO116 hb; replace HO119 := krb HO119 hb; replace HO124 := krb HO124 hb; replace HO127 := krb HO127 hb; replace HO130 := krb HO130 hb; replace HO133 := krb HO133 hb; replace HO136 := krb HO136 hb; have BK138 := Aside0.mk (hbox); have GW138 := Aside0.mk ((by rw [hg]; exact (below_size (Sq.kl2 HB GE101 GE121)) : w.heap.size ≤ gb138)); have GE138 := Aside0.mk ((by rw [hg]; exact (below_size (Sq.kl2 HB GE101 GE121)) : w.heap.size ≤ gb138)); replace HB := Aside0.mk (below_step (Sq.kl2 HB GE101 GE121) hb); have NB101_138 := Aside0.mk ((by rw [hg]; exact Nat.ne_of_lt (blk_lt (kb BK101)) : gb101 ≠ gb138)); have NB138_101 := Aside0.mk ((by rw [hg]; exact Nat.ne_of_gt (blk_lt (kb BK101)) : gb138 ≠ gb101)); replace BK101 := kbb BK101 hb; have NB121_138 := Aside0.mk ((by rw [hg]; exact Nat.ne_of_lt (blk_lt (kb BK121)) : gb121 ≠ gb138)); have NB138_121 := Aside0.mk ((by rw [hg]; exact Nat.ne_of_gt (blk_lt (kb BK121)) : gb138 ≠ gb121)); replace BK121 := kbb BK121 hb; clear hb hbox hg; obtain ⟨Ao45, co45, eo45⟩ := Kd.R_slice HO124.out; subst eo45; have hnb46 := NB138_101.out; have hnc46 := NB101_138.out; have hnb47 := NB138_121.out; have hnc47 := NB121_138.out; obtain ⟨hcz48_0, hcz48_1, hcz48_2, hcz48_3, hcz48_4⟩ := Sq.c5 BK138; obtain ⟨hfz48_0, hfz48_1, hfz48_2, hfz48_3, hfz48_4⟩ := Sq.z5 BK138; obtain ⟨Ao49, co49, eo49⟩ := Kd.R_slice HO127.out; subst eo49; obtain ⟨Ao50, co50, eo50⟩ := Kd.R_slice HO130.out; subst eo50; obtain ⟨Ao51, co51, eo51⟩ := Kd.R_slice HO133.out; subst eo51; obtain ⟨Ao52, co52, eo52⟩ := Kd.R_slice HO136.out; subst eo52))
  obtain ⟨w53, hw_⟩ : ∃ x, x = (((((w44.setCell ⟨gb138, 0, none⟩ (.slice Ao45 t122.length co45)).setCell ⟨gb138, 1, none⟩ (.slice Ao49 t125.length co49)).setCell ⟨gb138, 2, none⟩ (.slice Ao50 t128.length co50)).setCell ⟨gb138, 3, none⟩ (.slice Ao51 t131.length co51)).setCell ⟨gb138, 4, none⟩ (.slice Ao52 t134.length co52)) := ⟨_, rfl⟩
  replace HO107 : Aside0 (Kd.R k56 56 w53 w.heap.size (fun k_ => some k_ ≠ (.slice Ao45 t122.length co45 : Value).ownBlock) (.slice Ao35 t105.length co35) t105) := ⟨by rw [hw_]; (with_reducible repeat (first | apply Kd.R_alloc | apply Kd.R_drewN | apply Kd.R_drew)); exact Kd.R_mono (Sq.rf5 HO107 BK138) (fun _ hk => hk.1.2)⟩
  replace HO110 : Aside0 (Kd.R k54 54 w53 w.heap.size (fun k_ => some k_ ≠ (.slice Ao49 t125.length co49 : Value).ownBlock) (.slice Ao38 t108.length co38) t108) := ⟨by rw [hw_]; (with_reducible repeat (first | apply Kd.R_alloc | apply Kd.R_drewN | apply Kd.R_drew)); exact Kd.R_mono (Sq.rf5 HO110 BK138) (fun _ hk => hk.1.2)⟩
  replace HO113 : Aside0 (Kd.R k67 67 w53 w.heap.size (fun k_ => some k_ ≠ (.slice Ao50 t128.length co50 : Value).ownBlock) (.slice Ao39 t111.length co39) t111) := ⟨by rw [hw_]; (with_reducible repeat (first | apply Kd.R_alloc | apply Kd.R_drewN | apply Kd.R_drew)); exact Kd.R_mono (Sq.rf5 HO113 BK138) (fun _ hk => hk.1.2)⟩
  replace HO116 : Aside0 (Kd.R Kd.bool 4 w53 w.heap.size (fun k_ => some k_ ≠ (.slice Ao41 t117.length co41 : Value).ownBlock ∧ some k_ ≠ (.slice Ao51 t131.length co51 : Value).ownBlock ∧ some k_ ≠ (.slice Ao52 t134.length co52 : Value).ownBlock) (.slice Ao40 t114.length co40) t114) := ⟨by rw [hw_]; (with_reducible repeat (first | apply Kd.R_alloc | apply Kd.R_drewN | apply Kd.R_drew)); exact Kd.R_mono (Sq.rf5 HO116 BK138) (fun _ hk => ⟨hk.1.1.1, ⟨hk.1.1.2, hk.1.2⟩⟩)⟩
  replace HO119 : Aside0 (Kd.R Kd.bool 4 w53 w.heap.size (fun k_ => some k_ ≠ (.slice Ao40 t114.length co40 : Value).ownBlock ∧ some k_ ≠ (.slice Ao51 t131.length co51 : Value).ownBlock ∧ some k_ ≠ (.slice Ao52 t134.length co52 : Value).ownBlock) (.slice Ao41 t117.length co41) t117) := ⟨by rw [hw_]; (with_reducible repeat (first | apply Kd.R_alloc | apply Kd.R_drewN | apply Kd.R_drew)); exact Kd.R_mono (Sq.rf5 HO119 BK138) (fun _ hk => ⟨hk.1.1.1, ⟨hk.1.1.2, hk.1.2⟩⟩)⟩
  replace HO124 : Aside0 (Kd.R k56 56 w53 w.heap.size (fun k_ => some k_ ≠ (.slice Ao35 t105.length co35 : Value).ownBlock) (.slice Ao45 t122.length co45) t122) := ⟨by rw [hw_]; (with_reducible repeat (first | apply Kd.R_alloc | apply Kd.R_drewN | apply Kd.R_drew)); exact Kd.R_mono (Sq.rf5 HO124 BK138) (fun _ hk => hk.1.2)⟩
  replace HO127 : Aside0 (Kd.R k54 54 w53 w.heap.size (fun k_ => some k_ ≠ (.slice Ao38 t108.length co38 : Value).ownBlock) (.slice Ao49 t125.length co49) t125) := ⟨by rw [hw_]; (with_reducible repeat (first | apply Kd.R_alloc | apply Kd.R_drewN | apply Kd.R_drew)); exact Kd.R_mono (Sq.rf5 HO127 BK138) (fun _ hk => hk.1.2)⟩
  replace HO130 : Aside0 (Kd.R k67 67 w53 w.heap.size (fun k_ => some k_ ≠ (.slice Ao39 t111.length co39 : Value).ownBlock) (.slice Ao50 t128.length co50) t128) := ⟨by rw [hw_]; (with_reducible repeat (first | apply Kd.R_alloc | apply Kd.R_drewN | apply Kd.R_drew)); exact Kd.R_mono (Sq.rf5 HO130 BK138) (fun _ hk => hk.1.2)⟩
  replace HO133 : Aside0 (Kd.R Kd.bool 4 w53 w.heap.size (fun k_ => some k_ ≠ (.slice Ao40 t114.length co40 : Value).ownBlock ∧ some k_ ≠ (.slice Ao41 t117.length co41 : Value).ownBlock ∧ some k_ ≠ (.slice Ao52 t134.length co52 : Value).ownBlock) (.slice Ao51 t131.length co51) t131) := ⟨by rw [hw_]; (with_reducible repeat (first | apply Kd.R_alloc | apply Kd.R_drewN | apply Kd.R_drew)); exact Kd.R_mono (Sq.rf5 HO133 BK138) (fun _ hk => ⟨hk.1.1.2, ⟨hk.1.2, hk.1.1.1⟩⟩)⟩
  replace HO136 : Aside0 (Kd.R Kd.bool 4 w53 w.heap.size (fun k_ => some k_ ≠ (.slice Ao40 t114.length co40 : Value).ownBlock ∧ some k_ ≠ (.slice Ao41 t117.length co41 : Value).ownBlock ∧ some k_ ≠ (.slice Ao51 t131.length co51 : Value).ownBlock) (.slice Ao52 t134.length co52) t134) := ⟨by rw [hw_]; (with_reducible repeat (first | apply Kd.R_alloc | apply Kd.R_drewN | apply Kd.R_drew)); exact Kd.R_mono (Sq.rf5 HO136 BK138) (fun _ hk => ⟨hk.1.1.2, ⟨hk.1.2, hk.1.1.1⟩⟩)⟩
  replace BK101 : Aside0 (w53.heap[gb101]? = some (.cells #[.int .i64 a1_0, .int .i64 a1_1, .int .i64 a1_2, .int .i64 a1_3, .int .i64 a1_4, .int .i64 a1_5, .int .i64 a1_6] 35 (0, 0))) := ⟨by rw [hw_]; (with_reducible repeat (first | refine blk_drewN ?_ _ | refine blk_drew ?_ | refine blk_alloc ?_ _)); refine blk_far ?_ NB101_138.out _; (with_reducible repeat (first | refine blk_drewN ?_ _ | refine blk_drew ?_ | refine blk_alloc ?_ _)); refine blk_far ?_ NB101_138.out _; (with_reducible repeat (first | refine blk_drewN ?_ _ | refine blk_drew ?_ | refine blk_alloc ?_ _)); refine blk_far ?_ NB101_138.out _; (with_reducible repeat (first | refine blk_drewN ?_ _ | refine blk_drew ?_ | refine blk_alloc ?_ _)); refine blk_far ?_ NB101_138.out _; (with_reducible repeat (first | refine blk_drewN ?_ _ | refine blk_drew ?_ | refine blk_alloc ?_ _)); refine blk_far ?_ NB101_138.out _; exact Sq.kb BK101⟩
  replace BK121 : Aside0 (w53.heap[gb121]? = some (.cells #[.slice Ao35 t105.length co35, .slice Ao38 t108.length co38, .slice Ao39 t111.length co39, .slice Ao40 t114.length co40, .slice Ao41 t117.length co41] 27 (0, 0))) := ⟨by rw [hw_]; (with_reducible repeat (first | refine blk_drewN ?_ _ | refine blk_drew ?_ | refine blk_alloc ?_ _)); refine blk_far ?_ NB121_138.out _; (with_reducible repeat (first | refine blk_drewN ?_ _ | refine blk_drew ?_ | refine blk_alloc ?_ _)); refine blk_far ?_ NB121_138.out _; (with_reducible repeat (first | refine blk_drewN ?_ _ | refine blk_drew ?_ | refine blk_alloc ?_ _)); refine blk_far ?_ NB121_138.out _; (with_reducible repeat (first | refine blk_drewN ?_ _ | refine blk_drew ?_ | refine blk_alloc ?_ _)); refine blk_far ?_ NB121_138.out _; (with_reducible repeat (first | refine blk_drewN ?_ _ | refine blk_drew ?_ | refine blk_alloc ?_ _)); refine blk_far ?_ NB121_138.out _; exact Sq.kb BK121⟩
  replace BK138 : Aside0 (w53.heap[gb138]? = some (.cells #[.slice Ao45 t122.length co45, .slice Ao49 t125.length co49, .slice Ao50 t128.length co50, .slice Ao51 t131.length co51, .slice Ao52 t134.length co52] 31 (0, 0))) := ⟨by rw [hw_]; (with_reducible repeat (first | refine blk_drewN ?_ _ | refine blk_drew ?_ | refine blk_alloc ?_ _)); refine blk_put (cs := #[.slice Ao45 t122.length co45, .slice Ao49 t125.length co49, .slice Ao50 t128.length co50, .slice Ao51 t131.length co51, .slice none 0 0]) ?_ 4 _ rfl; (with_reducible repeat (first | refine blk_drewN ?_ _ | refine blk_drew ?_ | refine blk_alloc ?_ _)); refine blk_put (cs := #[.slice Ao45 t122.length co45, .slice Ao49 t125.length co49, .slice Ao50 t128.length co50, .slice none 0 0, .slice none 0 0]) ?_ 3 _ rfl; (with_reducible repeat (first | refine blk_drewN ?_ _ | refine blk_drew ?_ | refine blk_alloc ?_ _)); refine blk_put (cs := #[.slice Ao45 t122.length co45, .slice Ao49 t125.length co49, .slice none 0 0, .slice none 0 0, .slice none 0 0]) ?_ 2 _ rfl; (with_reducible repeat (first | refine blk_drewN ?_ _ | refine blk_drew ?_ | refine blk_alloc ?_ _)); refine blk_put (cs := #[.slice Ao45 t122.length co45, .slice none 0 0, .slice none 0 0, .slice none 0 0, .slice none 0 0]) ?_ 1 _ rfl; (with_reducible repeat (first | refine blk_drewN ?_ _ | refine blk_drew ?_ | refine blk_alloc ?_ _)); refine blk_put (cs := #[.slice none 0 0, .slice none 0 0, .slice none 0 0, .slice none 0 0, .slice none 0 0]) ?_ 0 _ rfl; exact Sq.kb BK138⟩
  replace HB : Aside0 (Below w.heap.size w w53) := ⟨by rw [hw_]; exact Sq.kl3 HB GE101 GE121 GE138⟩
  rw [← hw_]
  clear hw_
  replace HO107 := Aside0.mk (Kd.R_drew HO107.out)
  replace HO110 := Aside0.mk (Kd.R_drew HO110.out)
  replace HO113 := Aside0.mk (Kd.R_drew HO113.out)
  replace HO116 := Aside0.mk (Kd.R_drew HO116.out)
  replace HO119 := Aside0.mk (Kd.R_drew HO119.out)
  replace HO124 := Aside0.mk (Kd.R_drew HO124.out)
  replace HO127 := Aside0.mk (Kd.R_drew HO127.out)
  replace HO130 := Aside0.mk (Kd.R_drew HO130.out)
  replace HO133 := Aside0.mk (Kd.R_drew HO133.out)
  replace HO136 := Aside0.mk (Kd.R_drew HO136.out)
  replace BK101 := Aside0.mk (blk_drew BK101.out)
  replace BK121 := Aside0.mk (blk_drew BK121.out)
  replace BK138 := Aside0.mk (blk_drew BK138.out)
  replace HB := Aside0.mk (below_drew1 HB.out)
  refine start_ (n := 19) (S := fun w' => w'.cell? ⟨gb121, 0, none⟩ = some (.slice Ao35 t105.length co35) ∧ w'.cell? ⟨gb121, 1, none⟩ = some (.slice Ao38 t108.length co38) ∧ w'.cell? ⟨gb121, 2, none⟩ = some (.slice Ao39 t111.length co39) ∧ w'.cell? ⟨gb121, 3, none⟩ = some (.slice Ao40 t114.length co40) ∧ w'.cell? ⟨gb121, 4, none⟩ = some (.slice Ao41 t117.length co41) ∧ w'.cell? ⟨gb138, 0, none⟩ = some (.slice Ao45 t122.length co45) ∧ w'.cell? ⟨gb138, 1, none⟩ = some (.slice Ao49 t125.length co49) ∧ w'.cell? ⟨gb138, 2, none⟩ = some (.slice Ao50 t128.length co50) ∧ w'.cell? ⟨gb138, 3, none⟩ = some (.slice Ao51 t131.length co51) ∧ w'.cell? ⟨gb138, 4, none⟩ = some (.slice Ao52 t134.length co52) ∧ Sem.run Try.prog (convert 33 9 (Value.slice A0 ji5.toNat c0)) w' = Result.ok (Value.string (strOfNums (List.take ji5.toNat l0))) w') (ds := []) (Sq.bm 19 0) (by kernel_rfl) rfl (by kernel_rfl) ⟨(blk_cell BK121.out 0).trans rfl, (blk_cell BK121.out 1).trans rfl, (blk_cell BK121.out 2).trans rfl, (blk_cell BK121.out 3).trans rfl, (blk_cell BK121.out 4).trans rfl, (blk_cell BK138.out 0).trans rfl, (blk_cell BK138.out 1).trans rfl, (blk_cell BK138.out 2).trans rfl, (blk_cell BK138.out 3).trans rfl, (blk_cell BK138.out 4).trans rfl, by have h_ := Kd.C_string (P := Try.prog) (A := A0) (c := c0) Try.underlying33 Try.underlying5 Try.underlying9 (Kd.C_below HR103.out HB.out); rw [HLN.out] at h_; exact h_⟩ (fun hHeld => ?_); refine with_tabW longcaselaw06_BlockReads.tab8 longcaselaw06_BlockReads.bits8 (fun HT_ HW_ => ?_)
  generalize w53.drew = w54 at HO107 HO110 HO113 HO116 HO119 HO124 HO127 HO130 HO133 HO136 BK101 BK121 BK138 HB hHeld ⊢
  refine Sq.pv 0 48 1 HT_ ?_
  refine Sq.pv 1 49 3 HT_ ?_
  refine Sq.tv 2 50 7 HT_ HW_ hHeld ?_
  refine Sq.tv 4 52 23 HT_ HW_ hHeld ?_
  refine one_ (i := 3) (N := some 51) (bm 19 31) rfl rfl (one_of HT_.out (by kernel_rfl)) (by decide) (fun K hK => ?_)
  refine goes_ Try.func14 (by kernel_rfl) rfl #[.agg #[.slice Ao35 t105.length co35, .slice Ao38 t108.length co38, .slice Ao39 t111.length co39, .slice Ao40 t114.length co40, .slice Ao41 t117.length co41]] (by rfl) rfl rfl (by (try simp only [List.map_toArray, List.map_cons, List.map_nil]); first | done | rfl | (simp only [List.length_drop, List.length_take]; rfl)) ?_
  with_reducible refine (longcaselaw06_ref.calls _ _ t105 _ _ t108 _ _ t111 _ _ t114 _ _ t117 t139 t142 t145 t148 t151 _ A28.out).mono ?_
  rintro e w55 ⟨v140, v143, v146, v149, v152, rfl, ho0, ho1, ho2, ho3, ho4, hb⟩
  refine ⟨_, rfl, ?_⟩
  replace HO124 := krb HO124 hb
  replace HO127 := krb HO127 hb
  replace HO130 := krb HO130 hb
  replace HO133 := krb HO133 hb
  replace HO136 := krb HO136 hb
  have HO141 := Aside0.mk (ho0 _ _ (kr HO107))
  replace HO107 := krb HO107 hb
  have HO144 := Aside0.mk (ho1 _ _ (kr HO110))
  replace HO110 := krb HO110 hb
  have HO147 := Aside0.mk (ho2 _ _ (kr HO113))
  replace HO113 := krb HO113 hb
  have HO150 := Aside0.mk (ho3 _ _ (kr HO116))
  replace HO116 := krb HO116 hb
  have HO153 := Aside0.mk (ho4 _ _ (kr HO119))
  replace HO119 := krb HO119 hb
  replace BK101 := kbb BK101 hb
  replace BK121 := kbb BK121 hb
  replace BK138 := kbb BK138 hb
  replace HB := Aside0.mk (below_step (Sq.kl3 HB GE101 GE121 GE138) hb)
  (try clear hb)
  (try clear hk)
  (try clear ho0)
  (try clear ho1)
  (try clear ho2)
  (try clear ho3)
  (try clear ho4)
  obtain ⟨Ao56, co56, eo56⟩ := Kd.R_slice HO141.out
  (first | subst eo56 | (injection eo56 with f1_ f2_ f3_; have f4_ := f1_.symm; have f5_ := f3_.symm; clear f1_ f2_ f3_; subst f4_; subst f5_))
  obtain ⟨Ao57, co57, eo57⟩ := Kd.R_slice HO144.out
  (first | subst eo57 | (injection eo57 with f1_ f2_ f3_; have f4_ := f1_.symm; have f5_ := f3_.symm; clear f1_ f2_ f3_; subst f4_; subst f5_))
  obtain ⟨Ao58, co58, eo58⟩ := Kd.R_slice HO147.out
  (first | subst eo58 | (injection eo58 with f1_ f2_ f3_; have f4_ := f1_.symm; have f5_ := f3_.symm; clear f1_ f2_ f3_; subst f4_; subst f5_))
  obtain ⟨Ao59, co59, eo59⟩ := Kd.R_slice HO150.out
  (first | subst eo59 | (injection eo59 with f1_ f2_ f3_; have f4_ := f1_.symm; have f5_ := f3_.symm; clear f1_ f2_ f3_; subst f4_; subst f5_))
  obtain ⟨Ao60, co60, eo60⟩ := Kd.R_slice HO153.out
  (first | subst eo60 | (injection eo60 with f1_ f2_ f3_; have f4_ := f1_.symm; have f5_ := f3_.symm; clear f1_ f2_ f3_; subst f4_; subst f5_))
  refine hK.out _ _ ⟨(blk_cell BK121.out 0).trans rfl, (blk_cell BK121.out 1).trans rfl, (blk_cell BK121.out 2).trans rfl, (blk_cell BK121.out 3).trans rfl, (blk_cell BK121.out 4).trans rfl, (blk_cell BK138.out 0).trans rfl, (blk_cell BK138.out 1).trans rfl, (blk_cell BK138.out 2).trans rfl, (blk_cell BK138.out 3).trans rfl, (blk_cell BK138.out 4).trans rfl, by have h_ := Kd.C_string (P := Try.prog) (A := A0) (c := c0) Try.underlying33 Try.underlying5 Try.underlying9 (Kd.C_below HR103.out HB.out); rw [HLN.out] at h_; exact h_⟩ (fun hHeld => ?_)
  clear hK K
  refine norm_ (a' := ?_) ?_ ?_
  rotate_left
  ·
   show Act.put _ (some 51) _ = _
   simp only [Act.put, List.setIfInBounds_toArray, List.set_cons_zero, List.set_cons_succ, i64_w, i32_w]
   rfl
  refine one_ (i := 5) (N := some 53) (bm 19 63) rfl rfl (one_of HT_.out (by kernel_rfl)) (by decide) (fun K hK => ?_)
  refine goes_ Try.func17 (by kernel_rfl) rfl #[.agg #[.slice Ao56 t139.length co56, .slice Ao57 t142.length co57, .slice Ao58 t145.length co58, .slice Ao59 t148.length co59, .slice Ao60 t151.length co60], .agg #[.slice Ao45 t122.length co45, .slice Ao49 t125.length co49, .slice Ao50 t128.length co50, .slice Ao51 t131.length co51, .slice Ao52 t134.length co52]] (by rfl) rfl rfl (by (try simp only [List.map_toArray, List.map_cons, List.map_nil]); first | done | rfl | (simp only [List.length_drop, List.length_take]; rfl)) ?_
  with_reducible refine (longcaseref06_Same.calls _ _ t139 _ _ t142 _ _ t145 _ _ t148 _ _ t151 _ _ t122 _ _ t125 _ _ t128 _ _ t131 _ _ t134 true _ ?side1 ?side2 ?side3 ?side4 ?side5 ?side6 ?side7 ?side8 ?side9 ?side10 ?side11 ?side12 ?side13 ?side14 ?side15 ?side16 ?side17 ?side18 ?side19 ?side20 A29.out).mono ?_
  (case side1 => exact Sq.qc HO141)
  (case side2 => exact Sq.ql HO141)
  (case side3 => exact Sq.qc HO144)
  (case side4 => exact Sq.ql HO144)
  (case side5 => exact Sq.qc HO147)
  (case side6 => exact Sq.ql HO147)
  (case side7 => exact Sq.qc HO150)
  (case side8 => exact Sq.ql HO150)
  (case side9 => exact Sq.qc HO153)
  (case side10 => exact Sq.ql HO153)
  (case side11 => exact Sq.qc HO124)
  (case side12 => exact Sq.ql HO124)
  (case side13 => exact Sq.qc HO127)
  (case side14 => exact Sq.ql HO127)
  (case side15 => exact Sq.qc HO130)
  (case side16 => exact Sq.ql HO130)
  (case side17 => exact Sq.qc HO133)
  (case side18 => exact Sq.ql HO133)
  (case side19 => exact Sq.qc HO136)
  (case side20 => exact Sq.ql HO136)
  rintro e w61 ⟨rfl, hb⟩
  refine ⟨_, rfl, ?_⟩
  replace HO107 := krb HO107 hb
  replace HO110 := krb HO110 hb
  replace HO113 := krb HO113 hb
  replace HO116 := krb HO116 hb
  replace HO119 := krb HO119 hb
  replace HO124 := krb HO124 hb
  replace HO127 := krb HO127 hb
  replace HO130 := krb HO130 hb
  replace HO133 := krb HO133 hb
  replace HO136 := krb HO136 hb
  replace HO141 := krb HO141 hb
  replace HO144 := krb HO144 hb
  replace HO147 := krb HO147 hb
  replace HO150 := krb HO150 hb
  replace HO153 := krb HO153 hb
  replace BK101 := kbb BK101 hb
  replace BK121 := kbb BK121 hb
  replace BK138 := kbb BK138 hb
  replace HB := Aside0.mk (below_step (Sq.kl3 HB GE101 GE121 GE138) hb)
  (try clear hb)
  (try clear hk)
  have hcv62 := Kd.C_string (P := Try.prog) (A := A0) (c := c0) Try.underlying33 Try.underlying5 Try.underlying9 (Kd.C_below HR103.out HB.out); rw [HLN.out] at hcv62
  refine hK.out _ _ ⟨(blk_cell BK121.out 0).trans rfl, (blk_cell BK121.out 1).trans rfl, (blk_cell BK121.out 2).trans rfl, (blk_cell BK121.out 3).trans rfl, (blk_cell BK121.out 4).trans rfl, (blk_cell BK138.out 0).trans rfl, (blk_cell BK138.out 1).trans rfl, (blk_cell BK138.out 2).trans rfl, (blk_cell BK138.out 3).trans rfl, (blk_cell BK138.out 4).trans rfl, by have h_ := Kd.C_string (P := Try.prog) (A := A0) (c := c0) Try.underlying33 Try.underlying5 Try.underlying9 (Kd.C_below HR103.out HB.out); rw [HLN.out] at h_; exact h_⟩ (fun hHeld => ?_)
  clear hK K
  refine norm_ (a' := ?_) ?_ ?_
  rotate_left
  ·
   show Act.put _ (some 53) _ = _
   simp only [Act.put, List.setIfInBounds_toArray, List.set_cons_zero, List.set_cons_succ, i64_w, i32_w]
   rfl
  refine Sq.pv 6 54 127 HT_ ?_
  refine Sq.pv 7 55 255 HT_ ?_
  refine Sq.pv 8 56 511 HT_ ?_
  refine Sq.pv 9 57 1023 HT_ ?_
  refine Sq.pv 10 58 2047 HT_ ?_
  refine Sq.pv 11 59 4095 HT_ ?_
  refine Sq.pv 12 60 8191 HT_ ?_
  refine Sq.pv 13 61 16383 HT_ ?_
  refine Sq.tv 14 62 32767 HT_ HW_ hHeld ?_
  refine Sq.pv 15 63 65535 HT_ ?_
  refine Sq.pv 16 64 131071 HT_ ?_
  refine Sq.pv 17 65 262143 HT_ ?_
  refine Sq.pv 18 6 524287 HT_ ?_
  refine done_ (done_of HT_.out (by kernel_rfl)) ?_
  try go_wp2
  go_ret
  exact ⟨by first | rfl | (simp [errW_none, errW_some] <;> rfl) | (simp only [← hji5]; first | rfl | (simp [errW_none, errW_some] <;> rfl)) | (simp [*, errW_none, errW_some] <;> rfl), by repeat (first | (with_reducible first | exact HB.out | apply below_alloc | apply pw_below_drewN | apply below_drew1 | refine below_set ?_ GE101.out | refine below_set ?_ GE121.out | refine below_set ?_ GE138.out) | exact HB.out)⟩
end Go.Proofs.Ythobnoknbdljgaa.PL5
end
section
namespace Go.Proofs.Ythobnoknbdljgaa
open Go.RowKit Hand PB0 Go.Proofs.YthobnoknbdljgaaW.PrintWords Stub Stub2 PL5
theorem dec_ok (l0 : List Int) (v ut sd le ti ty ch a2 : Int) :
  ∃ (K : List S56) (J : List S54) (L : List S67) (S U : List Bool) (e : Int), block_Decode.f l0 v ut sd le ti ty ch a2 = some (K, J, L, S, U, e) ∧ encOK K J L S U := by
 have h0 : encOK [] [] [] [] [] := by decide
 unfold block_Decode.f
 by_cases hp : (a2 = 4 ∨ a2 = 8) ∧ rightP v ut sd le ti ty ch
 ·
  rw [if_pos hp]
  obtain ⟨ha, h1, h2, h3, h4, h5, h6, h7⟩ := hp
  split
  ·
   exact ⟨_, _, _, _, _, _, rfl, h0⟩
  ·
   split
   ·
    exact ⟨_, _, _, _, _, _, rfl, encOK_d _ _ _ _ _ _ _ _ (by omega)⟩
   ·
    exact ⟨_, _, _, _, _, _, rfl, h0⟩
 ·
  rw [if_neg hp]
  exact ⟨_, _, _, _, _, _, rfl, h0⟩
theorem reads_j (k : Nat) (x0 : List Int) (hb : Bytes x0) (hl : x0.length < 1000000000) (x2 : Int) (b : Bool) (v ut sd le ti ty ch : Int) :
  longcaselaw06_BlockReads.j0 (k + 1) x0 x2 true (strOfNums x0) b v ut sd le ti ty ch = some true := by
 rw [longcaselaw06_BlockReads.j0]
 cases b
 ·
  rw [if_neg (by decide)]
  obtain ⟨K, J, L, S, U, e, hd, hok⟩ := dec_ok x0 v ut sd le ti ty ch x2
  have hd2 : longcaseref06_Decode.f x0 v ut sd le ti ty ch x2 = some (K, J, L, S, U, e) := by
   unfold longcaseref06_Decode.f
   rw [if_pos ⟨hb, hl⟩, hd]
  have hs : longcaseref06_Same.f K J L S U K J L S U = some true := by
   unfold longcaseref06_Same.f sameB
   rw [if_pos ⟨hok.1, hok.2.2.1, hok.2.2.2.1, hok.2.2.2.2.1, hok.2.2.2.2.2⟩]
   simp
  rw [hd, Option.bind_some, hd2, Option.bind_some, if_pos rfl]
  unfold longcaselaw06_ref.f
  rw [Option.bind_some]
  dsimp only
  rw [hs, Option.bind_some, if_pos rfl, if_pos rfl]
  simp
 ·
  rw [if_pos rfl]
theorem reads_f (l0 : List Int) (hb : Bytes l0) (v ut sd le ti ty ch : Int) (a2 : Int) : longcaselaw06_BlockReads.f 1 l0 v ut sd le ti ty ch a2 = some true := by
 unfold longcaselaw06_BlockReads.f longcaselaw06_shown.f
 have h0 : 0 ≤ mn (l0.length : Int) 2000 := by unfold mn; split <;> omega
 have h1 : mn (l0.length : Int) 2000 ≤ (l0.length : Int) := by unfold mn; split <;> omega
 have h2 : (l0.take (mn (l0.length : Int) 2000).toNat).length < 1000000000 := by rw [List.length_take]; unfold mn; split <;> omega
 rw [Option.bind_some, if_pos h0, if_pos h1, hright_f, Option.bind_some]
 split
 ·
  split <;> exact reads_j 0 _ (hb.take _) h2 a2 _ v ut sd le ti ty ch
 ·
  exact reads_j 0 _ (hb.take _) h2 a2 _ v ut sd le ti ty ch
end Go.Proofs.Ythobnoknbdljgaa
namespace Go.Proofs.Ythobnoknbdljgaa.Hand
open Go.RowKit PB0 Go.Proofs.YthobnoknbdljgaaW.PrintWords
theorem reads_row (a0 : Option Addr) (len0 cap0 : Nat) (z0 : List Int) (v ut sd le ti ty ch : Int) (a2 : Int) (w : World)
  (w0 : (a0 = none ∧ len0 = 0 ∧ cap0 = 0 ∧ z0 = []) ∨ ∃ x, a0 = some x ∧ len0 ≤ cap0 ∧ cap0 ≤ maxLen ∧ z0.length = cap0 ∧ (∀ i, i < z0.length → w.cell? (x.add i) = some (.int .u8 (z0.getD i 0))) ∧ ∀ n ∈ z0, (Lit.int .u8 n).wf = true) (_y0 : len0 * 1 ≤ 140737488351232) (_ : (Lit.int .i64 v).wf = true) (_ : (Lit.int .i64 ut).wf = true) (_ : (Lit.int .i64 sd).wf = true) (_ : (Lit.int .i64 le).wf = true) (_ : (Lit.int .i64 ti).wf = true) (_ : (Lit.int .i64 ty).wf = true) (_ : (Lit.int .i64 ch).wf = true) (_ : (Lit.int .i64 a2).wf = true) :
  Calls Try.prog 4 #[.slice a0 len0 cap0, .agg #[.int .i64 v, .int .i64 ut, .int .i64 sd, .int .i64 le, .int .i64 ti, .int .i64 ty, .int .i64 ch], .int .i64 a2] w fun e w' => e = .returned (.bool true) ∧ Below w.heap.size w w' := by
 obtain ⟨l0, rfl, hr0, hm0, hw0, hc0⟩ := ReadsInt.ofRowC w0
 exact PL5.longcaselaw06_BlockReads.calls 1 a0 cap0 l0 v ut sd le ti ty ch a2 true w (Kd.C_of_reads (d := (0 : Int)) (h1 := fun _ => rfl) hr0) hc0 (reads_f l0 (Oct.bytes_wf hw0) v ut sd le ti ty ch a2) rfl
end Go.Proofs.Ythobnoknbdljgaa.Hand
end
