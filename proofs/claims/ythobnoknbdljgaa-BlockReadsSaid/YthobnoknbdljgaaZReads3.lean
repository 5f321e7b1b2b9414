/- What the claim needs of its texts, one behind the other (laid by a program of the session's). -/
import Derived.Test.YthobnoknbdljgaaZReads2
import Derived.Deep.RegionHeldLaw
section
namespace Go.Proofs.Ythobnoknbdljgaa.PE
open Go.Proofs.Ythobnoknbdljgaa.PB0 Sq
open Go.RowKit Go.Proofs.Ythobnoknbdljgaa.Stub Go.Proofs.Ythobnoknbdljgaa.Hand Go.Proofs.YthobnoknbdljgaaW.PrintWords Go.Proofs.YthobnoknbdljgaaW.PrintLast Go.Proofs.YthobnoknbdljgaaW.PrintMore
attribute [local go_sem] max2_int min2_int max_two min_two
set_option linter.unusedVariables false
set_option linter.unusedSimpArgs false
mutual
def block_Encode.j0 : Nat → Int → Int → Bool → List (S56) → List (S54) → List (S67) → List Bool → List Bool → Option (List Int × Int × Int × Int × Int × Int × Int × Int × Int)
 | 0, _, _, _, _, _, _, _, _ => none
 | k + 1, x1, x2, x33, x102000, x102001, x102002, x102003, x102004 => if x33 = true then (some (([] : List Int), 0, 0, 0, 0, 0, 0, 0, 1)) else (block_Encode.l0 k x1 x2 ([] : List Int) x102001 (x102001.length : Int) 0 x102000 x102001 x102002 x102003 x102004)
def block_Encode.l0 : Nat → Int → Int → List Int → List (S54) → Int → Int → List (S56) → List (S54) → List (S67) → List Bool → List Bool → Option (List Int × Int × Int × Int × Int × Int × Int × Int × Int)
 | 0, _, _, _, _, _, _, _, _, _, _, _ => none
 | k + 1, x1, x2, x9, x36, x37, x38, x102000, x102001, x102002, x102003, x102004 => if x38 < x37 then (if 0 ≤ x38 then (if x38 < (x36.length : Int) then ((octets_Put.f ([] : List Int) x1 (IntKind.u64.wrap ((rd_T54 x36 x38).f0))).bind fun t106 => (if x9.length + t106.length < 140737488355328 then (block_Encode.l0 k x1 x2 (x9 ++ t106) x36 x37 (wrap64 (x38 + 1)) x102000 x102001 x102002 x102003 x102004) else (none))) else (none)) else (none)) else (block_Encode.l1 k x1 x2 x9 x102001 (x102001.length : Int) 0 x102000 x102001 x102002 x102003 x102004)
def block_Encode.l1 : Nat → Int → Int → List Int → List (S54) → Int → Int → List (S56) → List (S54) → List (S67) → List Bool → List Bool → Option (List Int × Int × Int × Int × Int × Int × Int × Int × Int)
 | 0, _, _, _, _, _, _, _, _, _, _, _ => none
 | k + 1, x1, x2, x9, x51, x52, x53, x102000, x102001, x102002, x102003, x102004 => if x53 < x52 then (if 0 ≤ x53 then (if x53 < (x51.length : Int) then (if x9.length < 140737488355328 then (block_Encode.l1 k x1 x2 (x9 ++ [((rd_T54 x51 x53).f1) % 256]) x51 x52 (wrap64 (x53 + 1)) x102000 x102001 x102002 x102003 x102004) else (none)) else (none)) else (none)) else ((block_names.f x102000).bind fun bt117 => (block_Encode.l2 k x1 x2 x9 bt117.1 bt117.2 x102000 (x102000.length : Int) 0 x102000 x102001 x102002 x102003 x102004))
def block_Encode.l2 : Nat → Int → Int → List Int → ByteArray → List Int → List (S56) → Int → Int → List (S56) → List (S54) → List (S67) → List Bool → List Bool → Option (List Int × Int × Int × Int × Int × Int × Int × Int × Int)
 | 0, _, _, _, _, _, _, _, _, _, _, _, _, _ => none
 | k + 1, x1, x2, x9, x14, x15, x71, x72, x73, x102000, x102001, x102002, x102003, x102004 => if x73 < x72 then (if 0 ≤ x73 then (if x73 < (x71.length : Int) then ((octets_Put.f ([] : List Int) 4 (IntKind.u64.wrap ((rd_T56 x71 x73).f0))).bind fun t123 => ((block_truths.f (([(rd_T56 x71 x73).f1] : List Bool))).bind fun t129 => (if x73 ≤ (wrap64 (x73 + 1)) then (if (wrap64 (x73 + 1)) ≤ (x15.length : Int) then ((slices_Concat_byte_byte.f (([x9, t123, t129, ((x15.take ((wrap64 (x73 + 1)) : Int).toNat).drop (x73 : Int).toNat)] : List (List Int)))).bind fun t140 => (block_Encode.l2 k x1 x2 t140 x14 x15 x71 x72 (wrap64 (x73 + 1)) x102000 x102001 x102002 x102003 x102004)) else (none)) else (none)))) else (none)) else (none)) else (if x9.length + x14.size < 140737488355328 then (block_Encode.l3 k x1 x2 (x9 ++ bytesOf x14) x14 x102002 (x102002.length : Int) 0 x102000 x102001 x102002 x102003 x102004) else (none))
def block_Encode.l3 : Nat → Int → Int → List Int → ByteArray → List (S67) → Int → Int → List (S56) → List (S54) → List (S67) → List Bool → List Bool → Option (List Int × Int × Int × Int × Int × Int × Int × Int × Int)
 | 0, _, _, _, _, _, _, _, _, _, _, _, _ => none
 | k + 1, x1, x2, x9, x14, x99, x100, x101, x102000, x102001, x102002, x102003, x102004 => if x101 < x100 then (if 0 ≤ x101 then (if x101 < (x99.length : Int) then ((octets_Put.f ([] : List Int) x1 (IntKind.u64.wrap ((rd_T67 x99 x101).f0))).bind fun t148 => ((octets_Put.f t148 4 (IntKind.u64.wrap ((rd_T67 x99 x101).f1))).bind fun t151 => (if x9.length + t151.length < 140737488355328 then (block_Encode.l3 k x1 x2 (x9 ++ t151) x14 x99 x100 (wrap64 (x101 + 1)) x102000 x102001 x102002 x102003 x102004) else (none)))) else (none)) else (none)) else ((block_truths.f x102003).bind fun t158 => ((block_truths.f x102004).bind fun t161 => ((slices_Concat_byte_byte.f (([x9, t158, t161] : List (List Int)))).bind fun t167 => (some (t167, x2, (x102004.length : Int), (x102003.length : Int), (x102002.length : Int), (x102001.length : Int), (x102000.length : Int), (x14.size : Int), 0)))))
end
def block_Encode.f (k : Nat) (l0_0 : List (S56)) (l0_1 : List (S54)) (l0_2 : List (S67)) (l0_3 : List Bool) (l0_4 : List Bool) (a1 : Int) (a2 : Int) : Option (List Int × Int × Int × Int × Int × Int × Int × Int × Int) := if a2 < 1 then (block_Encode.j0 k a1 a2 true l0_0 l0_1 l0_2 l0_3 l0_4) else (if a2 > 4 then (block_Encode.j0 k a1 a2 true l0_0 l0_1 l0_2 l0_3 l0_4) else ((block_Right.f l0_0 l0_1 l0_2 l0_3 l0_4 a1 a2).bind fun t103 => (block_Encode.j0 k a1 a2 (!t103) l0_0 l0_1 l0_2 l0_3 l0_4)))
def block_Encode.T18 : Bool × List (List Nat × List Nat) := (true, [([], []), ([], []), ([1], [1]), ([2], [2]), ([3], [3]), ([], []), ([5], [5]), ([6], [6]), ([7, 4], [7]), ([], []), ([], []), ([], []), ([11], [11]), ([9, 10, 12], [9, 10, 12]), ([0, 4, 8, 13], [0, 4, 8, 13]), ([14, 8], [14]), ([15, 15, 0, 1, 2, 3, 4, 5, 6, 7, 8, 9, 10, 11, 12, 13, 14, 15], [0, 15])])
def block_Encode.B18 : List Nat := [0, 0, 2, 6, 14, 0, 32, 96, 254, 0, 0, 0, 2048, 7680, 16383, 32767, 65535]
theorem block_Encode.tab18 : rtab .any (opsOf Try.f15 18) = block_Encode.T18 := by kernel_rfl
theorem block_Encode.bits18 : waitsOk block_Encode.T18.2 block_Encode.B18 = true := by kernel_rfl
def block_Encode.T24 : Bool × List (List Nat × List Nat) := (true, [([], []), ([], []), ([], []), ([2], [2]), ([3], [3]), ([1, 4], [1, 4]), ([], []), ([6], [6]), ([7], [7]), ([5, 8, 5], [5, 8]), ([0, 9, 9], [0, 9]), ([10, 10, 0, 1, 2, 3, 4, 5, 6, 7, 8, 9, 10], [0, 10])])
def block_Encode.B24 : List Nat := [0, 0, 0, 4, 12, 30, 0, 64, 192, 510, 1023, 2047]
theorem block_Encode.tab24 : rtab .any (opsOf Try.f15 24) = block_Encode.T24 := by kernel_rfl
theorem block_Encode.bits24 : waitsOk block_Encode.T24.2 block_Encode.B24 = true := by kernel_rfl
def block_Encode.T27 : Bool × List (List Nat × List Nat) := (true, [([], []), ([], []), ([1], [1]), ([2], [2]), ([], []), ([4], [4]), ([5, 3], [5]), ([0, 3, 6], [0, 3, 6]), ([7, 6], [7]), ([], []), ([8, 8, 0, 1, 2, 3, 4, 5, 6, 7, 8], [8]), ([9, 10, 0, 1, 2, 3, 4, 5, 6, 7, 8, 9, 10], [9]), ([11, 0, 1, 2, 3, 4, 5, 6, 7, 8, 9, 10, 11], [])])
def block_Encode.B27 : List Nat := [0, 0, 2, 6, 0, 16, 62, 127, 255, 0, 511, 2047, 4095]
theorem block_Encode.tab27 : rtab .any (opsOf Try.f15 27) = block_Encode.T27 := by kernel_rfl
theorem block_Encode.bits27 : waitsOk block_Encode.T27.2 block_Encode.B27 = true := by kernel_rfl
set_option maxHeartbeats 8000000 in
set_option maxRecDepth 100000 in
theorem block_Encode.calls (k : Nat) (A0_0 : Option Addr) (c0_0 : Nat) (l0_0 : List (S56)) (A0_1 : Option Addr) (c0_1 : Nat) (l0_1 : List (S54)) (A0_2 : Option Addr) (c0_2 : Nat) (l0_2 : List (S67)) (A0_3 : Option Addr) (c0_3 : Nat) (l0_3 : List Bool) (A0_4 : Option Addr) (c0_4 : Nat) (l0_4 : List Bool) (a1 : Int) (a2 : Int) (r1 : List Int) (r2 : Int) (r3 : Int) (r4 : Int) (r5 : Int) (r6 : Int) (r7 : Int) (r8 : Int) (r9 : Int) (w : World) (hr0_0 : Kd.C k56 w A0_0 l0_0.length l0_0) (hc0_0 : l0_0.length ≤ c0_0) (hr0_1 : Kd.C k54 w A0_1 l0_1.length l0_1) (hc0_1 : l0_1.length ≤ c0_1) (hr0_2 : Kd.C k67 w A0_2 l0_2.length l0_2) (hc0_2 : l0_2.length ≤ c0_2) (hr0_3 : Kd.C Kd.bool w A0_3 l0_3.length l0_3) (hc0_3 : l0_3.length ≤ c0_3) (hr0_4 : Kd.C Kd.bool w A0_4 l0_4.length l0_4) (hc0_4 : l0_4.length ≤ c0_4) (h : block_Encode.f k l0_0 l0_1 l0_2 l0_3 l0_4 a1 a2 = some (r1, r2, r3, r4, r5, r6, r7, r8, r9)) :
  Calls Try.prog 15 #[.agg #[.slice A0_0 l0_0.length c0_0, .slice A0_1 l0_1.length c0_1, .slice A0_2 l0_2.length c0_2, .slice A0_3 l0_3.length c0_3, .slice A0_4 l0_4.length c0_4], .int .i64 a1, .int .i64 a2] w fun e w' => ∃ v0_ : Value, e = .returned (.tuple #[v0_, .agg #[.int .i64 r2, .int .i64 r3, .int .i64 r4, .int .i64 r5, .int .i64 r6, .int .i64 r7, .int .i64 r8], .int .i64 r9]) ∧ Kd.R (Kd.int .u8) 5 w' w.heap.size (fun _ => True) v0_ r1 ∧ Below w.heap.size w w' := by
 have hu27 := Try.underlying27
 have hu35 := Try.underlying35
 have hu54 := Try.underlying54
 have hu56 := Try.underlying56
 have hu67 := Try.underlying67
 have HR0_0 := Aside0.mk hr0_0
 have HC0_0 := Aside0.mk hc0_0
 clear hr0_0 hc0_0
 have HR0_1 := Aside0.mk hr0_1
 have HC0_1 := Aside0.mk hc0_1
 clear hr0_1 hc0_1
 have HR0_2 := Aside0.mk hr0_2
 have HC0_2 := Aside0.mk hc0_2
 clear hr0_2 hc0_2
 have HR0_3 := Aside0.mk hr0_3
 have HC0_3 := Aside0.mk hc0_3
 clear hr0_3 hc0_3
 have HR0_4 := Aside0.mk hr0_4
 have HC0_4 := Aside0.mk hc0_4
 clear hr0_4 hc0_4
 have HB := Aside0.mk (Below.refl w.heap.size w)
 have H : (if a2 < 1 then (block_Encode.j0 k a1 a2 true l0_0 l0_1 l0_2 l0_3 l0_4) else (if a2 > 4 then (block_Encode.j0 k a1 a2 true l0_0 l0_1 l0_2 l0_3 l0_4) else ((block_Right.f l0_0 l0_1 l0_2 l0_3 l0_4 a1 a2).bind fun t103 => (block_Encode.j0 k a1 a2 (!t103) l0_0 l0_1 l0_2 l0_3 l0_4)))) = some (r1, r2, r3, r4, r5, r6, r7, r8, r9) := h
 clear h
 have HC4 := Aside0.mk H
 clear H
 go_enter Try.func15, Try.ntmps15
 go_upto_region 1 with (first | ((with_reducible refine gate_dst (N := 3) rfl ?_); refine box_event ?hg (N := 3) ?hd (cs := #[.slice A0_0 l0_0.length c0_0, .slice A0_1 l0_1.length c0_1, .slice A0_2 l0_2.length c0_2, .slice A0_3 l0_3.length c0_3, .slice A0_4 l0_4.length c0_4]) (t := 27) ?hr ?_; (case hd => rfl); (case hg => rfl); (case hr => first | (go_simp; done) | (go_simp; rfl)); intro gb101 hg w5 hbox hb; have BK101 := Aside0.mk (hbox); have GW101 := Aside0.mk ((by rw [hg]; exact (below_size (Sq.kl HB)) : w.heap.size ≤ gb101)); have GE101 := Aside0.mk ((by rw [hg]; exact (below_size (Sq.kl HB)) : w.heap.size ≤ gb101)); replace HB := Aside0.mk (below_step (Sq.kl HB) hb); clear hb hbox hg) | ((with_reducible refine gate_dst (N := 7) rfl ?_); refine box_event ?hg (N := 7) ?hd (cs := #[.int .i64 0, .int .i64 0, .int .i64 0, .int .i64 0, .int .i64 0, .int .i64 0, .int .i64 0]) (t := 35) ?hr ?_; (case hd => rfl); (case hg => rfl); (case hr => first | (go_simp; done) | (go_simp; rfl)); intro gb102 hg w6 hbox hb; have BK102 := Aside0.mk (hbox); have GW102 := Aside0.mk ((by rw [hg]; exact (below_size (Sq.kl1 HB GE101)) : w.heap.size ≤ gb102)); have GE102 := Aside0.mk ((by rw [hg]; exact (below_size (Sq.kl1 HB GE101)) : w.heap.size ≤ gb102)); replace HB := Aside0.mk (below_step (Sq.kl1 HB GE101) hb); have NB101_102 := Aside0.mk ((by rw [hg]; exact Nat.ne_of_lt (blk_lt (kb BK101)) : gb101 ≠ gb102)); have NB102_101 := Aside0.mk ((by rw [hg]; exact Nat.ne_of_gt (blk_lt (kb BK101)) : gb102 ≠ gb101)); replace BK101 := kbb BK101 hb; clear hb hbox hg))
 (try simp only [Act.put, List.setIfInBounds_toArray, List.set_cons_zero, List.set_cons_succ])
 go_cut [33] (fun v33 wc => ∃ (kq : Nat) (x33_3 : Bool), v33 = .bool x33_3 ∧ Aside0 (block_Encode.j0 kq a1 a2 x33_3 l0_0 l0_1 l0_2 l0_3 l0_4 = some (r1, r2, r3, r4, r5, r6, r7, r8, r9)) ∧ Aside0 (kq ≤ k) ∧ Aside0 (wc.heap[gb101]? = some (.cells #[(.slice A0_0 l0_0.length c0_0), (.slice A0_1 l0_1.length c0_1), (.slice A0_2 l0_2.length c0_2), (.slice A0_3 l0_3.length c0_3), (.slice A0_4 l0_4.length c0_4)] 27 (0, 0))) ∧ Aside0 (wc.heap[gb102]? = some (.cells #[.int .i64 0, .int .i64 0, .int .i64 0, .int .i64 0, .int .i64 0, .int .i64 0, .int .i64 0] 35 (0, 0))) ∧ Aside0 (Below w.heap.size w wc))
 case first =>
  have H := HC4.out
  clear HC4
  by_cases c7 : a2 < 1
  ·
   rw [if_pos c7] at H
   have c7b0 : decide (a2 < 1) = true := decide_eq_true c7
   clear c7
   (first | rw [c7b0] | rw [c7b1] | (simp only [i64_w, i32_w]; rw [c7b0]) | skip)
   have H' := Aside0.mk H
   clear H
   go_wp2
   go_meet
   case rel => exact ⟨_, (true), (by first | rfl | (simp; done) | (simp [*]; done)), H', ⟨by first | omega | exact Nat.le_refl _⟩, ⟨Sq.kb BK101⟩, ⟨Sq.kb BK102⟩, ⟨Sq.kl2 HB GE101 GE102⟩⟩
  rw [if_neg c7] at H
  have c7b0 : decide (a2 < 1) = false := decide_eq_false c7
  clear c7
  (first | rw [c7b0] | rw [c7b1] | (simp only [i64_w, i32_w]; rw [c7b0]) | skip)
  by_cases c8 : a2 > 4
  ·
   rw [if_pos c8] at H
   have c8b0 : decide (4 < a2) = true := decide_eq_true c8
   clear c8
   have H' := Aside0.mk H
   clear H
   go_wp2
   go_meet
   case rel => exact ⟨_, (true), (by first | rfl | (simp; done) | (simp [*]; done)), H', ⟨by first | omega | exact Nat.le_refl _⟩, ⟨Sq.kb BK101⟩, ⟨Sq.kb BK102⟩, ⟨Sq.kl2 HB GE101 GE102⟩⟩
  rw [if_neg c8] at H
  have c8b0 : decide (4 < a2) = false := decide_eq_false c8
  clear c8
  replace H := Option.bind_eq_some_iff.mp H
  obtain ⟨t103, A90, H⟩ := H
  replace H : (block_Encode.j0 k a1 a2 (!t103) l0_0 l0_1 l0_2 l0_3 l0_4) = some (r1, r2, r3, r4, r5, r6, r7, r8, r9) := H
  have A9 := Aside0.mk A90
  clear A90
  have H' := Aside0.mk H
  clear H
  have hnb10 := NB101_102.out
  have hnc10 := NB102_101.out
  obtain ⟨hcz11_0, hcz11_1, hcz11_2, hcz11_3, hcz11_4⟩ := Sq.c5 BK101
  obtain ⟨hfz11_0, hfz11_1, hfz11_2, hfz11_3, hfz11_4⟩ := Sq.z5 BK101
  go_wp2_with (first | (go_at_call 16; (with_reducible refine (block_Right.calls _ _ l0_0 _ _ l0_1 _ _ l0_2 _ _ l0_3 _ _ l0_4 a1 a2 t103 _ ?side1 ?side2 ?side3 ?side4 ?side5 ?side6 ?side7 ?side8 ?side9 ?side10 A9.out).mono ?_); (case side1 => exact Sq.qd HR0_0 HB); (case side2 => exact HC0_0.out); (case side3 => exact Sq.qd HR0_1 HB); (case side4 => exact HC0_1.out); (case side5 => exact Sq.qd HR0_2 HB); (case side6 => exact HC0_2.out); (case side7 => exact Sq.qd HR0_3 HB); (case side8 => exact HC0_3.out); (case side9 => exact Sq.qd HR0_4 HB); (case side10 => exact HC0_4.out); rintro e w12 ⟨rfl, hb⟩; replace BK101 := kbb BK101 hb; replace BK102 := kbb BK102 hb; replace HB := Aside0.mk (below_step (Sq.kl2 HB GE101 GE102) hb); (try clear hb)))
  go_meet
  case rel => exact ⟨_, (!t103), (by first | rfl | (simp; done) | (simp [*]; done)), H', ⟨by first | omega | exact Nat.le_refl _⟩, ⟨Sq.kb BK101⟩, ⟨Sq.kb BK102⟩, ⟨Sq.kl2 HB GE101 GE102⟩⟩
 clear HC4
 try clear c1
 try clear p2
 try clear c7
 try clear c7b0
 try clear c8
 try clear c8b0
 try clear c10
 try clear hcz11_0
 try clear hcz11_1
 try clear hcz11_2
 try clear hcz11_3
 try clear hcz11_4
 try clear hfz11_0
 try clear hfz11_1
 try clear hfz11_2
 try clear hfz11_3
 try clear hfz11_4
 obtain ⟨kq, x33_3, rfl, HA, HJ3, BK101, BK102, HB⟩ := hcut
 cases kq with
 | zero => exact absurd HA.out (by simp [block_Encode.j0])
 | succ kj3 =>
  have H := HA.out
  clear HA
  simp only [block_Encode.j0] at H
  by_cases c13 : x33_3 = true
  ·
   subst c13
   rw [if_pos rfl] at H
   simp only [Option.some.injEq, Prod.mk.injEq] at H
   obtain ⟨rfl, rfl, rfl, rfl, rfl, rfl, rfl, rfl, rfl⟩ := H
   have hnb14 := NB102_101.out
   have hnc14 := NB101_102.out
   obtain ⟨hcz15_0, hcz15_1, hcz15_2, hcz15_3, hcz15_4, hcz15_5, hcz15_6⟩ := Sq.c7 BK102
   obtain ⟨hfz15_0, hfz15_1, hfz15_2, hfz15_3, hfz15_4, hfz15_5, hfz15_6⟩ := Sq.z7 BK102
   go_wp2
   refine bodyPost_ret (results_list (rs := [.tmp 6, .cell 7 35, .tmp 8]) rfl (by simp) (.tmp (.cell gb102 35 #[.int .i64 0, .int .i64 0, .int .i64 0, .int .i64 0, .int .i64 0, .int .i64 0, .int .i64 0] (0, 0) _ rfl (by (with_reducible repeat (first | refine blk_drewN ?_ _ | refine blk_drew ?_ | refine blk_alloc ?_ _)); refine blk_put (cs := #[.int .i64 0, .int .i64 0, .int .i64 0, .int .i64 0, .int .i64 0, .int .i64 0, .int .i64 0]) ?_ 6 _ rfl; (with_reducible repeat (first | refine blk_drewN ?_ _ | refine blk_drew ?_ | refine blk_alloc ?_ _)); refine blk_put (cs := #[.int .i64 0, .int .i64 0, .int .i64 0, .int .i64 0, .int .i64 0, .int .i64 0, .int .i64 0]) ?_ 5 _ rfl; (with_reducible repeat (first | refine blk_drewN ?_ _ | refine blk_drew ?_ | refine blk_alloc ?_ _)); refine blk_put (cs := #[.int .i64 0, .int .i64 0, .int .i64 0, .int .i64 0, .int .i64 0, .int .i64 0, .int .i64 0]) ?_ 4 _ rfl; (with_reducible repeat (first | refine blk_drewN ?_ _ | refine blk_drew ?_ | refine blk_alloc ?_ _)); refine blk_put (cs := #[.int .i64 0, .int .i64 0, .int .i64 0, .int .i64 0, .int .i64 0, .int .i64 0, .int .i64 0]) ?_ 3 _ rfl; (with_reducible repeat (first | refine blk_drewN ?_ _ | refine blk_drew ?_ | refine blk_alloc ?_ _)); refine blk_put (cs := #[.int .i64 0, .int .i64 0, .int .i64 0, .int .i64 0, .int .i64 0, .int .i64 0, .int .i64 0]) ?_ 2 _ rfl; (with_reducible repeat (first | refine blk_drewN ?_ _ | refine blk_drew ?_ | refine blk_alloc ?_ _)); refine blk_put (cs := #[.int .i64 0, .int .i64 0, .int .i64 0, .int .i64 0, .int .i64 0, .int .i64 0, .int .i64 0]) ?_ 1 _ rfl; (with_reducible repeat (first | refine blk_drewN ?_ _ | refine blk_drew ?_ | refine blk_alloc ?_ _)); refine blk_put (cs := #[.int .i64 0, .int .i64 0, .int .i64 0, .int .i64 0, .int .i64 0, .int .i64 0, .int .i64 0]) ?_ 0 _ rfl; exact Sq.kb BK102) Try.underlying35 rfl (by kernel_rfl) (.tmp .nil)))) rfl ?_
   exact ⟨_, by first | rfl | (simp [errW_none, errW_some] <;> rfl) | (simp [*, errW_none, errW_some] <;> rfl), by first | exact Kd.R_nil _ _ _ _ _ | exact Kd.N_nil _ _ _ _ _ | exact Kd.V_nil _ _ _ _ _ | exact Kd.Q_nil _ _ _ _ _ | exact Kd.S_nil _ _ _ _ _, by repeat (first | (with_reducible first | exact HB.out | apply below_alloc | apply pw_below_drewN | apply below_drew1 | refine below_set ?_ GE101.out | refine below_set ?_ GE102.out) | exact HB.out)⟩
  replace c13 := Bool.eq_false_iff.mpr c13
  subst c13
  rw [if_neg (show ¬ (false = true) by decide)] at H
  have H' := Aside0.mk H
  clear H
  have hnb16 := NB101_102.out
  have hnc16 := NB102_101.out
  obtain ⟨hcz17_0, hcz17_1, hcz17_2, hcz17_3, hcz17_4⟩ := Sq.c5 BK101
  obtain ⟨hfz17_0, hfz17_1, hfz17_2, hfz17_3, hfz17_4⟩ := Sq.z5 BK101
  go_wp2
  go_loopg [9, 38] kj3 (fun kq v9 v38 w' => ∃ (x9_2 : List Int) (x38_2 : Int), v38 = .int .i64 x38_2 ∧ Aside0 (block_Encode.l0 kq a1 a2 x9_2 l0_1 (l0_1.length : Int) x38_2 l0_0 l0_1 l0_2 l0_3 l0_4 = some (r1, r2, r3, r4, r5, r6, r7, r8, r9)) ∧ Aside0 (kq ≤ kj3) ∧ Aside0 (Kd.R (Kd.int .u8) 5 w' w.heap.size (fun _ => True) v9 x9_2) ∧ Aside0 (w'.heap[gb101]? = some (.cells #[(.slice A0_0 l0_0.length c0_0), (.slice A0_1 l0_1.length c0_1), (.slice A0_2 l0_2.length c0_2), (.slice A0_3 l0_3.length c0_3), (.slice A0_4 l0_4.length c0_4)] 27 (0, 0))) ∧ Aside0 (w'.heap[gb102]? = some (.cells #[.int .i64 0, .int .i64 0, .int .i64 0, .int .i64 0, .int .i64 0, .int .i64 0, .int .i64 0] 35 (0, 0))) ∧ Aside0 (Below w.heap.size w w'))
  case atStart => exact ⟨(([] : List Int)), (0), (by first | rfl | (simp; done) | (simp [*]; done)), H', ⟨Nat.le_refl _⟩, ⟨by first | exact Kd.R_nil _ _ _ _ _ | exact Kd.N_nil _ _ _ _ _ | exact Kd.V_nil _ _ _ _ _ | exact Kd.Q_nil _ _ _ _ _ | exact Kd.S_nil _ _ _ _ _⟩, ⟨Sq.kb BK101⟩, ⟨Sq.kb BK102⟩, ⟨Sq.kl2 HB GE101 GE102⟩⟩
  clear H'
  try clear c1
  try clear p2
  try clear c7
  try clear c7b0
  try clear c8
  try clear c8b0
  try clear c10
  try clear c13
  try clear c14
  try clear c15
  try clear c16
  try clear hcz11_0
  try clear hcz11_1
  try clear hcz11_2
  try clear hcz11_3
  try clear hcz11_4
  try clear hcz15_0
  try clear hcz15_1
  try clear hcz15_2
  try clear hcz15_3
  try clear hcz15_4
  try clear hcz15_5
  try clear hcz15_6
  try clear hcz17_0
  try clear hcz17_1
  try clear hcz17_2
  try clear hcz17_3
  try clear hcz17_4
  try clear hfz11_0
  try clear hfz11_1
  try clear hfz11_2
  try clear hfz11_3
  try clear hfz11_4
  try clear hfz15_0
  try clear hfz15_1
  try clear hfz15_2
  try clear hfz15_3
  try clear hfz15_4
  try clear hfz15_5
  try clear hfz15_6
  try clear hfz17_0
  try clear hfz17_1
  try clear hfz17_2
  try clear hfz17_3
  try clear hfz17_4
  try clear p2
  obtain ⟨x9_2, x38_2, rfl, HA, HK2, HO_9, BK101, BK102, HB⟩ := hrel
  cases gk with
  | zero => exact absurd HA.out (by simp [block_Encode.l0])
  | succ k2 =>
   have H := HA.out
   clear HA
   simp only [block_Encode.l0] at H
   by_cases c18 : x38_2 < (l0_1.length : Int)
   ·
    rw [if_pos c18] at H
    have c18b0 : decide (x38_2 < (l0_1.length : Int)) = true := decide_eq_true c18
    clear c18
    by_cases c19 : 0 ≤ x38_2
    rotate_left
    ·
     rw [if_neg c19] at H
     exact absurd H (by simp)
    rw [if_pos c19] at H
    have c19b0 : decide (0 ≤ x38_2) = true := decide_eq_true c19
    clear c19
    by_cases c20 : x38_2 < (l0_1.length : Int)
    rotate_left
    ·
     rw [if_neg c20] at H
     exact absurd H (by simp)
    rw [if_pos c20] at H
    have c20b0 : decide (x38_2 < (l0_1.length : Int)) = true := decide_eq_true c20
    clear c20
    replace H := Option.bind_eq_some_iff.mp H
    obtain ⟨t106, A210, H⟩ := H
    replace H : (if x9_2.length + t106.length < 140737488355328 then (block_Encode.l0 k2 a1 a2 (x9_2 ++ t106) l0_1 (l0_1.length : Int) (wrap64 (x38_2 + 1)) l0_0 l0_1 l0_2 l0_3 l0_4) else (none)) = some (r1, r2, r3, r4, r5, r6, r7, r8, r9) := H
    have A21 := Aside0.mk A210
    clear A210
    by_cases c22 : x9_2.length + t106.length < 140737488355328
    rotate_left
    ·
     rw [if_neg c22] at H
     exact absurd H (by simp)
    rw [if_pos c22] at H
    have LMc22 := Aside0.mk c22
    clear c22
    obtain ⟨y109, hy109⟩ : ∃ y_ : List Int, y_ = (x9_2 ++ t106) := ⟨_, rfl⟩
    replace H : (block_Encode.l0 k2 a1 a2 y109 l0_1 (l0_1.length : Int) (wrap64 (x38_2 + 1)) l0_0 l0_1 l0_2 l0_3 l0_4) = some (r1, r2, r3, r4, r5, r6, r7, r8, r9) := by first | (rw [hy109]; with_reducible exact H) | (have H2_ := (Option.bind_some _ _).symm.trans H; rw [hy109]; with_reducible exact H2_) | (have H2_ := (Option.bind_some _ _).symm.trans H; with_reducible exact H2_) | with_reducible exact H | (rw [hy109]; exact H) | exact H
    have Ny109 := Aside0.mk hy109
    clear hy109
    have H' := Aside0.mk H
    clear H
    have p104 : 0 ≤ (x38_2 : Int) := of_decide_eq_true (by first | (with_reducible assumption) | assumption)
    have q104 : x38_2 < (l0_1.length : Int) := of_decide_eq_true (by first | (with_reducible assumption) | assumption)
    obtain ⟨ad104, e104, hx104_0, hx104_1⟩ := at_T54 HR0_1.out x38_2 p104 q104
    cases e104
    replace hx104_0 := (HB.out.cell (World.block_lt_of_cell? w _ hx104_0)).trans hx104_0
    replace hx104_1 := (HB.out.cell (World.block_lt_of_cell? w _ hx104_1)).trans hx104_1
    replace p104 := eq_true p104
    replace q104 := eq_true q104
    go_wp2_with (first | ((with_reducible refine gate_dst (N := 11) rfl ?_); refine box_event ?hg (N := 11) ?hd (cs := #[.int .i64 0, .int .i64 0]) (t := 54) ?hr ?_; (case hd => rfl); (case hg => rfl); (case hr => first | (go_simp; done) | (go_simp; rfl)); intro gb105 hg w23 hbox hb; replace HO_9 := krb HO_9 hb; have BK105 := Aside0.mk (hbox); have GW105 := Aside0.mk ((by rw [hg]; exact (below_size (Sq.kl2 HB GE101 GE102)) : w.heap.size ≤ gb105)); have GE105 := Aside0.mk ((by rw [hg]; exact (below_size (Sq.kl2 HB GE101 GE102)) : w.heap.size ≤ gb105)); replace HB := Aside0.mk (below_step (Sq.kl2 HB GE101 GE102) hb); have NB101_105 := Aside0.mk ((by rw [hg]; exact Nat.ne_of_lt (blk_lt (kb BK101)) : gb101 ≠ gb105)); have NB105_101 := Aside0.mk ((by rw [hg]; exact Nat.ne_of_gt (blk_lt (kb BK101)) : gb105 ≠ gb101)); replace BK101 := kbb BK101 hb; have NB102_105 := Aside0.mk ((by rw [hg]; exact Nat.ne_of_lt (blk_lt (kb BK102)) : gb102 ≠ gb105)); have NB105_102 := Aside0.mk ((by rw [hg]; exact Nat.ne_of_gt (blk_lt (kb BK102)) : gb105 ≠ gb102)); replace BK102 := kbb BK102 hb; clear hb hbox hg; have hnb24 := NB105_101.out; have hnc24 := NB101_105.out; have hnb25 := NB105_102.out; have hnc25 := NB102_105.out; obtain ⟨hcz26_0, hcz26_1⟩ := Sq.c2 BK105; obtain ⟨hfz26_0, hfz26_1⟩ := Sq.z2 BK105) | ((with_reducible refine gate_callee (f := 26) rfl ?_); refine goesL_ (some 47) rfl rfl Try.func26 (by kernel_rfl) rfl #[.slice none 0 0, .int .i64 a1, .int .u64 (IntKind.u64.wrap ((rd_T54 l0_1 x38_2).f0))] rfl (by (try simp only [List.map_toArray, List.map_cons, List.map_nil]); first | done | rfl | (simp only [List.length_drop, List.length_take]; rfl)) ?_; (refine (octets_Put.calls _ _ ([] : List Int) a1 (IntKind.u64.wrap ((rd_T54 l0_1 x38_2).f0)) t106 _ ?side1 ?side2 A21.out).mono ?_); (case side1 => exact Kd.C_nil _ _); (case side2 => exact Nat.le_refl _); rintro e w27 ⟨v107, rfl, ho0, hb⟩; refine ⟨_, rfl, ?_⟩; have HO108 := Aside0.mk (Kd.R_lower (Kd.R_new' ho0 (Kd.R_lt (by (with_reducible repeat (first | apply Kd.R_alloc | apply Kd.R_drewN | apply Kd.R_drew)); exact (rp2 HO_9 BK105)))) (below_size (Sq.kl3 HB GE101 GE102 GE105))); replace HO_9 := Aside0.mk (Kd.R_elder' (by (with_reducible repeat (first | apply Kd.R_alloc | apply Kd.R_drewN | apply Kd.R_drew)); exact (rp2 HO_9 BK105)) (Kd.R_base ho0) hb); replace BK101 := Aside0.mk (blk_below (g := gb101) (o := .cells #[.slice A0_0 l0_0.length c0_0, .slice (some ad104) l0_1.length c0_1, .slice A0_2 l0_2.length c0_2, .slice A0_3 l0_3.length c0_3, .slice A0_4 l0_4.length c0_4] 27 (0, 0)) (by (with_reducible repeat (first | refine blk_drewN ?_ _ | refine blk_drew ?_ | refine blk_alloc ?_ _)); refine blk_far ?_ NB101_105.out _; (with_reducible repeat (first | refine blk_drewN ?_ _ | refine blk_drew ?_ | refine blk_alloc ?_ _)); refine blk_far ?_ NB101_105.out _; exact Sq.kb BK101) hb); replace BK102 := Aside0.mk (blk_below (g := gb102) (o := .cells #[.int .i64 0, .int .i64 0, .int .i64 0, .int .i64 0, .int .i64 0, .int .i64 0, .int .i64 0] 35 (0, 0)) (by (with_reducible repeat (first | refine blk_drewN ?_ _ | refine blk_drew ?_ | refine blk_alloc ?_ _)); refine blk_far ?_ NB102_105.out _; (with_reducible repeat (first | refine blk_drewN ?_ _ | refine blk_drew ?_ | refine blk_alloc ?_ _)); refine blk_far ?_ NB102_105.out _; exact Sq.kb BK102) hb); replace BK105 := Aside0.mk (blk_below (g := gb105) (o := .cells #[.int .i64 ((rd_T54 l0_1 x38_2).f0), .int .i64 ((rd_T54 l0_1 x38_2).f1)] 54 (0, 0)) (by (with_reducible repeat (first | refine blk_drewN ?_ _ | refine blk_drew ?_ | refine blk_alloc ?_ _)); refine blk_put (cs := #[.int .i64 ((rd_T54 l0_1 x38_2).f0), .int .i64 0]) ?_ 1 _ rfl; (with_reducible repeat (first | refine blk_drewN ?_ _ | refine blk_drew ?_ | refine blk_alloc ?_ _)); refine blk_put (cs := #[.int .i64 0, .int .i64 0]) ?_ 0 _ rfl; exact Sq.kb BK105) hb); replace HB := Aside0.mk (below_step (Sq.kl3 HB GE101 GE102 GE105) hb); (try clear hb); (try clear ho0); obtain ⟨Ao29, co29, eo29⟩ := Kd.R_slice HO108.out; subst eo29) | ((with_reducible refine gate_builtin (b := .append) (xs := #[.tmp 42, .tmp 47]) rfl ?_); at_builtin; refine Kd.R_append_rows (Kd.int .u8) (w0 := w) w.heap.size rfl (.tmp 42) (.tmp 47) 33 5 (.int .u8 0) 1 rfl Try.underlying33 info5 rfl (by decide) (by omega) u9 x9_2 t106 _ _ _ (fun k_ => some k_ ≠ (.slice Ao29 t106.length co29 : Value).ownBlock) (fun _ => False) rfl rfl ?aO ?aR (fun _ _ h => h) (fun _ h => h.elim) ?aF ?aB ?aS ?aL ?_; (case aR => repeat (first | exact (Kd.R_reads' HO108.out).2.2 | (with_reducible refine Kd.C_alloc ?_ _) | (with_reducible refine Kd.C_drewN ?_ _) | (with_reducible refine Kd.C_drew ?_))); (case aB => exact (Sq.kl3 HB GE101 GE102 GE105)); (case aF => exact (fun k_ hk => Kd.fresh' (Kd.R_lt (kr HO108)) k_ hk)); (case aO => exact (by (with_reducible repeat (first | apply Kd.R_alloc | apply Kd.R_drewN | apply Kd.R_drew)); exact Kd.R_mono HO_9.out (fun _ hk => hk.2))); (case aS => exact (below_size (Sq.kl3 HB GE101 GE102 GE105))); (case aL => have := LMc22.out; omega); intro v110 w28 ho hb hg hat; rw [← Ny109.out] at ho; replace BK101 := Aside0.mk (blk_grown (g := gb101) (o := .cells #[.slice A0_0 l0_0.length c0_0, .slice (some ad104) l0_1.length c0_1, .slice A0_2 l0_2.length c0_2, .slice A0_3 l0_3.length c0_3, .slice A0_4 l0_4.length c0_4] 27 (0, 0)) (kb BK101) hg (Kd.R_ne HO_9.out BK101.out (by decide))); replace BK102 := Aside0.mk (blk_grown (g := gb102) (o := .cells #[.int .i64 0, .int .i64 0, .int .i64 0, .int .i64 0, .int .i64 0, .int .i64 0, .int .i64 0] 35 (0, 0)) (kb BK102) hg (Kd.R_ne HO_9.out BK102.out (by decide))); replace BK105 := Aside0.mk (blk_grown (g := gb105) (o := .cells #[.int .i64 ((rd_T54 l0_1 x38_2).f0), .int .i64 ((rd_T54 l0_1 x38_2).f1)] 54 (0, 0)) (kb BK105) hg (Kd.R_ne HO_9.out BK105.out (by decide))); replace HO108 := Aside0.mk (Kd.R_after (ok := (fun _ => True)) (kr HO108) hg hat); replace HB := Aside0.mk (hb); have HO111 := Aside0.mk (ho); clear HO_9; clear ho hb hg hat))
    go_roundg k2
    case measure => have := HJ3.out; have := HK2.out; omega
    case rel => exact ⟨(y109), (wrap64 (x38_2 + 1)), (by first | rfl | (simp; done) | (simp [*]; done)), H', ⟨by have := HJ3.out; have := HK2.out; omega⟩, ⟨by (with_reducible repeat (first | apply Kd.R_alloc | apply Kd.R_drewN | apply Kd.R_drew)); exact Kd.R_mono HO111.out (fun _ hk => trivial)⟩, ⟨Sq.kb BK101⟩, ⟨Sq.kb BK102⟩, ⟨Sq.kl3 HB GE101 GE102 GE105⟩⟩
   rw [if_neg c18] at H
   have c18b0 : decide (x38_2 < (l0_1.length : Int)) = false := decide_eq_false c18
   clear c18
   have H' := Aside0.mk H
   clear H
   have hnb30 := NB101_102.out
   have hnc30 := NB102_101.out
   obtain ⟨hcz31_0, hcz31_1, hcz31_2, hcz31_3, hcz31_4⟩ := Sq.c5 BK101
   obtain ⟨hfz31_0, hfz31_1, hfz31_2, hfz31_3, hfz31_4⟩ := Sq.z5 BK101
   go_wp2
   go_loopg [9, 53] k2 (fun kq v9 v53 w' => ∃ (x9_3 : List Int) (x53_3 : Int), v53 = .int .i64 x53_3 ∧ Aside0 (block_Encode.l1 kq a1 a2 x9_3 l0_1 (l0_1.length : Int) x53_3 l0_0 l0_1 l0_2 l0_3 l0_4 = some (r1, r2, r3, r4, r5, r6, r7, r8, r9)) ∧ Aside0 (kq ≤ k2) ∧ Aside0 (Kd.R (Kd.int .u8) 5 w' w.heap.size (fun _ => True) v9 x9_3) ∧ Aside0 (w'.heap[gb101]? = some (.cells #[(.slice A0_0 l0_0.length c0_0), (.slice A0_1 l0_1.length c0_1), (.slice A0_2 l0_2.length c0_2), (.slice A0_3 l0_3.length c0_3), (.slice A0_4 l0_4.length c0_4)] 27 (0, 0))) ∧ Aside0 (w'.heap[gb102]? = some (.cells #[.int .i64 0, .int .i64 0, .int .i64 0, .int .i64 0, .int .i64 0, .int .i64 0, .int .i64 0] 35 (0, 0))) ∧ Aside0 (Below w.heap.size w w'))
   case atStart => exact ⟨(x9_2), (0), (by first | rfl | (simp; done) | (simp [*]; done)), H', ⟨Nat.le_refl _⟩, ⟨by (with_reducible repeat (first | apply Kd.R_alloc | apply Kd.R_drewN | apply Kd.R_drew)); exact HO_9.out⟩, ⟨Sq.kb BK101⟩, ⟨Sq.kb BK102⟩, ⟨Sq.kl2 HB GE101 GE102⟩⟩
   clear H'
   try clear c1
   try clear p1
   try clear q1
   try clear hx1
   try clear c2
   try clear p2
   try clear c3
   try clear p6
   try clear c7
   try clear c7b0
   try clear c8
   try clear c8b0
   try clear c10
   try clear p10
   try clear q10
   try clear hx10
   try clear c13
   try clear c14
   try clear c15
   try clear c16
   try clear c18
   try clear c18b0
   try clear c19
   try clear c19b0
   try clear c20
   try clear c20b0
   try clear c22
   try clear c24
   try clear c25
   try clear c26
   try clear c30
   try clear hcz11_0
   try clear hcz11_1
   try clear hcz11_2
   try clear hcz11_3
   try clear hcz11_4
   try clear hcz15_0
   try clear hcz15_1
   try clear hcz15_2
   try clear hcz15_3
   try clear hcz15_4
   try clear hcz15_5
   try clear hcz15_6
   try clear hcz17_0
   try clear hcz17_1
   try clear hcz17_2
   try clear hcz17_3
   try clear hcz17_4
   try clear hcz26_0
   try clear hcz26_1
   try clear hcz31_0
   try clear hcz31_1
   try clear hcz31_2
   try clear hcz31_3
   try clear hcz31_4
   try clear hfz11_0
   try clear hfz11_1
   try clear hfz11_2
   try clear hfz11_3
   try clear hfz11_4
   try clear hfz15_0
   try clear hfz15_1
   try clear hfz15_2
   try clear hfz15_3
   try clear hfz15_4
   try clear hfz15_5
   try clear hfz15_6
   try clear hfz17_0
   try clear hfz17_1
   try clear hfz17_2
   try clear hfz17_3
   try clear hfz17_4
   try clear hfz26_0
   try clear hfz26_1
   try clear hfz31_0
   try clear hfz31_1
   try clear hfz31_2
   try clear hfz31_3
   try clear hfz31_4
   try clear hx104_0
   try clear hx104_1
   try clear p104
   try clear p2
   try clear q104
   obtain ⟨x9_3, x53_3, rfl, HA, HK3, HO_9, BK101, BK102, HB⟩ := hrel
   cases gk with
   | zero => exact absurd HA.out (by simp [block_Encode.l1])
   | succ k3 =>
    have H := HA.out
    clear HA
    simp only [block_Encode.l1] at H
    by_cases c32 : x53_3 < (l0_1.length : Int)
    ·
     rw [if_pos c32] at H
     have c32b0 : decide (x53_3 < (l0_1.length : Int)) = true := decide_eq_true c32
     clear c32
     by_cases c33 : 0 ≤ x53_3
     rotate_left
     ·
      rw [if_neg c33] at H
      exact absurd H (by simp)
     rw [if_pos c33] at H
     have c33b0 : decide (0 ≤ x53_3) = true := decide_eq_true c33
     clear c33
     by_cases c34 : x53_3 < (l0_1.length : Int)
     rotate_left
     ·
      rw [if_neg c34] at H
      exact absurd H (by simp)
     rw [if_pos c34] at H
     have c34b0 : decide (x53_3 < (l0_1.length : Int)) = true := decide_eq_true c34
     clear c34
     by_cases c35 : x9_3.length < 140737488355328
     rotate_left
     ·
      rw [if_neg c35] at H
      exact absurd H (by simp)
     rw [if_pos c35] at H
     have LMc35 := Aside0.mk c35
     clear c35
     obtain ⟨y114, hy114⟩ : ∃ y_ : List Int, y_ = (x9_3 ++ [((rd_T54 l0_1 x53_3).f1) % 256]) := ⟨_, rfl⟩
     replace H : (block_Encode.l1 k3 a1 a2 y114 l0_1 (l0_1.length : Int) (wrap64 (x53_3 + 1)) l0_0 l0_1 l0_2 l0_3 l0_4) = some (r1, r2, r3, r4, r5, r6, r7, r8, r9) := by first | (rw [hy114]; with_reducible exact H) | (have H2_ := (Option.bind_some _ _).symm.trans H; rw [hy114]; with_reducible exact H2_) | (have H2_ := (Option.bind_some _ _).symm.trans H; with_reducible exact H2_) | with_reducible exact H | (rw [hy114]; exact H) | exact H
     have Ny114 := Aside0.mk hy114
     clear hy114
     have H' := Aside0.mk H
     clear H
     have p112 : 0 ≤ (x53_3 : Int) := of_decide_eq_true (by first | (with_reducible assumption) | assumption)
     have q112 : x53_3 < (l0_1.length : Int) := of_decide_eq_true (by first | (with_reducible assumption) | assumption)
     obtain ⟨ad112, e112, hx112_0, hx112_1⟩ := at_T54 HR0_1.out x53_3 p112 q112
     cases e112
     replace hx112_0 := (HB.out.cell (World.block_lt_of_cell? w _ hx112_0)).trans hx112_0
     replace hx112_1 := (HB.out.cell (World.block_lt_of_cell? w _ hx112_1)).trans hx112_1
     replace p112 := eq_true p112
     replace q112 := eq_true q112
     go_wp2_with (first | ((with_reducible refine gate_dst (N := 13) rfl ?_); refine box_event ?hg (N := 13) ?hd (cs := #[.int .i64 0, .int .i64 0]) (t := 54) ?hr ?_; (case hd => rfl); (case hg => rfl); (case hr => first | (go_simp; done) | (go_simp; rfl)); intro gb113 hg w36 hbox hb; replace HO_9 := krb HO_9 hb; have BK113 := Aside0.mk (hbox); have GW113 := Aside0.mk ((by rw [hg]; exact (below_size (Sq.kl2 HB GE101 GE102)) : w.heap.size ≤ gb113)); have GE113 := Aside0.mk ((by rw [hg]; exact (below_size (Sq.kl2 HB GE101 GE102)) : w.heap.size ≤ gb113)); replace HB := Aside0.mk (below_step (Sq.kl2 HB GE101 GE102) hb); have NB101_113 := Aside0.mk ((by rw [hg]; exact Nat.ne_of_lt (blk_lt (kb BK101)) : gb101 ≠ gb113)); have NB113_101 := Aside0.mk ((by rw [hg]; exact Nat.ne_of_gt (blk_lt (kb BK101)) : gb113 ≠ gb101)); replace BK101 := kbb BK101 hb; have NB102_113 := Aside0.mk ((by rw [hg]; exact Nat.ne_of_lt (blk_lt (kb BK102)) : gb102 ≠ gb113)); have NB113_102 := Aside0.mk ((by rw [hg]; exact Nat.ne_of_gt (blk_lt (kb BK102)) : gb113 ≠ gb102)); replace BK102 := kbb BK102 hb; clear hb hbox hg; have hnb37 := NB113_101.out; have hnc37 := NB101_113.out; have hnb38 := NB113_102.out; have hnc38 := NB102_113.out; obtain ⟨hcz39_0, hcz39_1⟩ := Sq.c2 BK113; obtain ⟨hfz39_0, hfz39_1⟩ := Sq.z2 BK113) | ((with_reducible refine gate_builtin (b := .append) (xs := #[.tmp 57, .tmp 61]) rfl ?_); at_builtin; refine Kd.R_append (Kd.int .u8) (w0 := w) w.heap.size rfl (.tmp 57) (.tmp 61) 33 5 (.int .u8 0) 1 rfl Try.underlying33 info5 rfl (by decide) (by omega) u9 x9_3 (((rd_T54 l0_1 x53_3).f1) % 256) [.int .u8 (((rd_T54 l0_1 x53_3).f1) % 256)] (fun _ => True) (fun _ => False) rfl (by first | (go_simp; done) | (go_simp; rfl)) ?aP (fun _ hk => hk.elim) ?aF ?aO ?aB ?aS ?aL ?_; (case aP => exact rfl); (case aB => exact (Sq.kl3 HB GE101 GE102 GE113)); (case aF => exact (fun _ _ => trivial)); (case aO => exact (by (with_reducible repeat (first | apply Kd.R_alloc | apply Kd.R_drewN | apply Kd.R_drew)); exact Kd.R_mono (Sq.rf2 HO_9 BK113) (fun _ hk => trivial))); (case aS => exact (below_size (Sq.kl3 HB GE101 GE102 GE113))); (case aL => have := LMc35.out; omega); intro v115 w40 ho hb hg hat; rw [← Ny114.out] at ho; replace BK101 := Aside0.mk (blk_grown (g := gb101) (o := .cells #[.slice A0_0 l0_0.length c0_0, .slice (some ad112) l0_1.length c0_1, .slice A0_2 l0_2.length c0_2, .slice A0_3 l0_3.length c0_3, .slice A0_4 l0_4.length c0_4] 27 (0, 0)) (by (with_reducible repeat (first | refine blk_drewN ?_ _ | refine blk_drew ?_ | refine blk_alloc ?_ _)); refine blk_far ?_ NB101_113.out _; (with_reducible repeat (first | refine blk_drewN ?_ _ | refine blk_drew ?_ | refine blk_alloc ?_ _)); refine blk_far ?_ NB101_113.out _; exact Sq.kb BK101) hg (Kd.R_ne HO_9.out BK101.out (by decide))); replace BK102 := Aside0.mk (blk_grown (g := gb102) (o := .cells #[.int .i64 0, .int .i64 0, .int .i64 0, .int .i64 0, .int .i64 0, .int .i64 0, .int .i64 0] 35 (0, 0)) (by (with_reducible repeat (first | refine blk_drewN ?_ _ | refine blk_drew ?_ | refine blk_alloc ?_ _)); refine blk_far ?_ NB102_113.out _; (with_reducible repeat (first | refine blk_drewN ?_ _ | refine blk_drew ?_ | refine blk_alloc ?_ _)); refine blk_far ?_ NB102_113.out _; exact Sq.kb BK102) hg (Kd.R_ne HO_9.out BK102.out (by decide))); replace BK113 := Aside0.mk (blk_grown (g := gb113) (o := .cells #[.int .i64 ((rd_T54 l0_1 x53_3).f0), .int .i64 ((rd_T54 l0_1 x53_3).f1)] 54 (0, 0)) (by (with_reducible repeat (first | refine blk_drewN ?_ _ | refine blk_drew ?_ | refine blk_alloc ?_ _)); refine blk_put (cs := #[.int .i64 ((rd_T54 l0_1 x53_3).f0), .int .i64 0]) ?_ 1 _ rfl; (with_reducible repeat (first | refine blk_drewN ?_ _ | refine blk_drew ?_ | refine blk_alloc ?_ _)); refine blk_put (cs := #[.int .i64 0, .int .i64 0]) ?_ 0 _ rfl; exact Sq.kb BK113) hg (Kd.R_ne HO_9.out BK113.out (by decide))); replace HB := Aside0.mk (hb); have HO116 := Aside0.mk (ho); clear HO_9; clear ho hb hg hat))
     go_roundg k3
     case measure => have := HJ3.out; have := HK2.out; have := HK3.out; omega
     case rel => exact ⟨(y114), (wrap64 (x53_3 + 1)), (by first | rfl | (simp; done) | (simp [*]; done)), H', ⟨by have := HJ3.out; have := HK2.out; have := HK3.out; omega⟩, ⟨by (with_reducible repeat (first | apply Kd.R_alloc | apply Kd.R_drewN | apply Kd.R_drew)); exact HO116.out⟩, ⟨Sq.kb BK101⟩, ⟨Sq.kb BK102⟩, ⟨Sq.kl3 HB GE101 GE102 GE113⟩⟩
    rw [if_neg c32] at H
    have c32b0 : decide (x53_3 < (l0_1.length : Int)) = false := decide_eq_false c32
    clear c32
    replace H := Option.bind_eq_some_iff.mp H
    obtain ⟨⟨t117, t118⟩, A410, H⟩ := H
    replace H : (block_Encode.l2 k3 a1 a2 x9_3 t117 t118 l0_0 (l0_0.length : Int) 0 l0_0 l0_1 l0_2 l0_3 l0_4) = some (r1, r2, r3, r4, r5, r6, r7, r8, r9) := H
    have A41 := Aside0.mk A410
    clear A410
    have H' := Aside0.mk H
    clear H
    have hnb42 := NB101_102.out
    have hnc42 := NB102_101.out
    obtain ⟨hcz43_0, hcz43_1, hcz43_2, hcz43_3, hcz43_4⟩ := Sq.c5 BK101
    obtain ⟨hfz43_0, hfz43_1, hfz43_2, hfz43_3, hfz43_4⟩ := Sq.z5 BK101
    go_wp2_with (first | ((with_reducible refine gate_callee (f := 27) rfl ?_); refine goesL_ (some 67) rfl rfl Try.func27 (by kernel_rfl) rfl #[.slice A0_0 l0_0.length c0_0] rfl (by (try simp only [List.map_toArray, List.map_cons, List.map_nil]); first | done | rfl | (simp only [List.length_drop, List.length_take]; rfl)) ?_; (with_reducible refine (block_names.calls _ _ l0_0 t117 t118 _ ?side1 ?side2 A41.out).mono ?_); (case side1 => exact Sq.qd HR0_0 HB); (case side2 => exact HC0_0.out); rintro e w44 ⟨v119, rfl, ho0, hb⟩; refine ⟨_, rfl, ?_⟩; have HO120 := Aside0.mk (Kd.R_lower (Kd.R_new' ho0 (Kd.R_lt (kr HO_9))) (below_size (Sq.kl2 HB GE101 GE102))); replace HO_9 := Aside0.mk (Kd.R_elder' (kr HO_9) (Kd.R_base ho0) hb); replace BK101 := kbb BK101 hb; replace BK102 := kbb BK102 hb; replace HB := Aside0.mk (below_step (Sq.kl2 HB GE101 GE102) hb); (try clear hb); (try clear ho0); obtain ⟨hcz45_0, hcz45_1, hcz45_2, hcz45_3, hcz45_4⟩ := Sq.c5 BK101; obtain ⟨hfz45_0, hfz45_1, hfz45_2, hfz45_3, hfz45_4⟩ := Sq.z5 BK101))
    go_loopg [9, 73] k3 (fun kq v9 v73 w' => ∃ (x9_4 : List Int) (x73_4 : Int), v73 = .int .i64 x73_4 ∧ Aside0 (block_Encode.l2 kq a1 a2 x9_4 t117 t118 l0_0 (l0_0.length : Int) x73_4 l0_0 l0_1 l0_2 l0_3 l0_4 = some (r1, r2, r3, r4, r5, r6, r7, r8, r9)) ∧ Aside0 (kq ≤ k3) ∧ Aside0 (Kd.R (Kd.int .u8) 5 w' w.heap.size (fun k_ => some k_ ≠ (v119 : Value).ownBlock) v9 x9_4) ∧ Aside0 (Kd.R (Kd.int .u8) 5 w' w.heap.size (fun k_ => some k_ ≠ (v9 : Value).ownBlock) v119 t118) ∧ Aside0 (w'.heap[gb101]? = some (.cells #[(.slice A0_0 l0_0.length c0_0), (.slice A0_1 l0_1.length c0_1), (.slice A0_2 l0_2.length c0_2), (.slice A0_3 l0_3.length c0_3), (.slice A0_4 l0_4.length c0_4)] 27 (0, 0))) ∧ Aside0 (w'.heap[gb102]? = some (.cells #[.int .i64 0, .int .i64 0, .int .i64 0, .int .i64 0, .int .i64 0, .int .i64 0, .int .i64 0] 35 (0, 0))) ∧ Aside0 (Below w.heap.size w w'))
    case atStart => exact ⟨(x9_3), (0), (by first | rfl | (simp; done) | (simp [*]; done)), H', ⟨Nat.le_refl _⟩, ⟨by (with_reducible repeat (first | apply Kd.R_alloc | apply Kd.R_drewN | apply Kd.R_drew)); exact Kd.R_mono HO_9.out (fun _ hk => hk.2)⟩, ⟨by (with_reducible repeat (first | apply Kd.R_alloc | apply Kd.R_drewN | apply Kd.R_drew)); exact Kd.R_mono HO120.out (fun _ hk => hk.2)⟩, ⟨Sq.kb BK101⟩, ⟨Sq.kb BK102⟩, ⟨Sq.kl2 HB GE101 GE102⟩⟩
    clear H'
    try clear c1
    try clear p1
    try clear q1
    try clear hx1
    try clear c2
    try clear p2
    try clear c3
    try clear c4
    try clear p6
    try clear c7
    try clear c7b0
    try clear c8
    try clear c8b0
    try clear c10
    try clear p10
    try clear q10
    try clear hx10
    try clear p11
    try clear q11
    try clear hx11
    try clear c13
    try clear c14
    try clear c15
    try clear c16
    try clear c18
    try clear c18b0
    try clear c19
    try clear c19b0
    try clear c20
    try clear c20b0
    try clear c22
    try clear c24
    try clear c25
    try clear c26
    try clear c27
    try clear c30
    try clear c32
    try clear c32b0
    try clear c33
    try clear c33b0
    try clear c34
    try clear c34b0
    try clear c35
    try clear c37
    try clear c38
    try clear c42
    try clear hcz11_0
    try clear hcz11_1
    try clear hcz11_2
    try clear hcz11_3
    try clear hcz11_4
    try clear hcz15_0
    try clear hcz15_1
    try clear hcz15_2
    try clear hcz15_3
    try clear hcz15_4
    try clear hcz15_5
    try clear hcz15_6
    try clear hcz17_0
    try clear hcz17_1
    try clear hcz17_2
    try clear hcz17_3
    try clear hcz17_4
    try clear hcz26_0
    try clear hcz26_1
    try clear hcz31_0
    try clear hcz31_1
    try clear hcz31_2
    try clear hcz31_3
    try clear hcz31_4
    try clear hcz39_0
    try clear hcz39_1
    try clear hcz43_0
    try clear hcz43_1
    try clear hcz43_2
    try clear hcz43_3
    try clear hcz43_4
    try clear hcz45_0
    try clear hcz45_1
    try clear hcz45_2
    try clear hcz45_3
    try clear hcz45_4
    try clear hfz11_0
    try clear hfz11_1
    try clear hfz11_2
    try clear hfz11_3
    try clear hfz11_4
    try clear hfz15_0
    try clear hfz15_1
    try clear hfz15_2
    try clear hfz15_3
    try clear hfz15_4
    try clear hfz15_5
    try clear hfz15_6
    try clear hfz17_0
    try clear hfz17_1
    try clear hfz17_2
    try clear hfz17_3
    try clear hfz17_4
    try clear hfz26_0
    try clear hfz26_1
    try clear hfz31_0
    try clear hfz31_1
    try clear hfz31_2
    try clear hfz31_3
    try clear hfz31_4
    try clear hfz39_0
    try clear hfz39_1
    try clear hfz43_0
    try clear hfz43_1
    try clear hfz43_2
    try clear hfz43_3
    try clear hfz43_4
    try clear hfz45_0
    try clear hfz45_1
    try clear hfz45_2
    try clear hfz45_3
    try clear hfz45_4
    try clear hx104_0
    try clear hx104_1
    try clear hx112_0
    try clear hx112_1
    try clear p1
    try clear p10
    try clear p104
    try clear p112
    try clear p2
    try clear p6
    try clear q1
    try clear q10
    try clear q104
    try clear q112
    obtain ⟨x9_4, x73_4, rfl, HA, HK4, HO_9, HO_15, BK101, BK102, HB⟩ := hrel
    cases gk with
    | zero => exact absurd HA.out (by simp [block_Encode.l2])
    | succ k4 =>
     have H := HA.out
     clear HA
     simp only [block_Encode.l2] at H
     by_cases c46 : x73_4 < (l0_0.length : Int)
     ·
      rw [if_pos c46] at H
      have c46b0 : decide (x73_4 < (l0_0.length : Int)) = true := decide_eq_true c46
      clear c46
      by_cases c47 : 0 ≤ x73_4
      rotate_left
      ·
       rw [if_neg c47] at H
       exact absurd H (by simp)
      rw [if_pos c47] at H
      have c47b0 : decide (0 ≤ x73_4) = true := decide_eq_true c47
      clear c47
      by_cases c48 : x73_4 < (l0_0.length : Int)
      rotate_left
      ·
       rw [if_neg c48] at H
       exact absurd H (by simp)
      rw [if_pos c48] at H
      have c48b0 : decide (x73_4 < (l0_0.length : Int)) = true := decide_eq_true c48
      clear c48
      replace H := Option.bind_eq_some_iff.mp H
      obtain ⟨t123, A490, H⟩ := H
      replace H : ((block_truths.f (([(rd_T56 l0_0 x73_4).f1] : List Bool))).bind fun t129 => (if x73_4 ≤ (wrap64 (x73_4 + 1)) then (if (wrap64 (x73_4 + 1)) ≤ (t118.length : Int) then ((slices_Concat_byte_byte.f (([x9_4, t123, t129, ((t118.take ((wrap64 (x73_4 + 1)) : Int).toNat).drop (x73_4 : Int).toNat)] : List (List Int)))).bind fun t140 => (block_Encode.l2 k4 a1 a2 t140 t117 t118 l0_0 (l0_0.length : Int) (wrap64 (x73_4 + 1)) l0_0 l0_1 l0_2 l0_3 l0_4)) else (none)) else (none))) = some (r1, r2, r3, r4, r5, r6, r7, r8, r9) := H
      have A49 := Aside0.mk A490
      clear A490
      obtain ⟨y126, hy126⟩ : ∃ y_ : List Bool, y_ = (([(rd_T56 l0_0 x73_4).f1] : List Bool)) := ⟨_, rfl⟩
      replace H : ((block_truths.f y126).bind fun t129 => (if x73_4 ≤ (wrap64 (x73_4 + 1)) then (if (wrap64 (x73_4 + 1)) ≤ (t118.length : Int) then ((slices_Concat_byte_byte.f (([x9_4, t123, t129, ((t118.take ((wrap64 (x73_4 + 1)) : Int).toNat).drop (x73_4 : Int).toNat)] : List (List Int)))).bind fun t140 => (block_Encode.l2 k4 a1 a2 t140 t117 t118 l0_0 (l0_0.length : Int) (wrap64 (x73_4 + 1)) l0_0 l0_1 l0_2 l0_3 l0_4)) else (none)) else (none))) = some (r1, r2, r3, r4, r5, r6, r7, r8, r9) := by first | (rw [hy126]; with_reducible exact H) | (have H2_ := (Option.bind_some _ _).symm.trans H; rw [hy126]; with_reducible exact H2_) | (have H2_ := (Option.bind_some _ _).symm.trans H; with_reducible exact H2_) | with_reducible exact H | (rw [hy126]; exact H) | exact H
      have Ny126 := Aside0.mk hy126
      clear hy126
      replace H := Option.bind_eq_some_iff.mp H
      obtain ⟨t129, A500, H⟩ := H
      replace H : (if x73_4 ≤ (wrap64 (x73_4 + 1)) then (if (wrap64 (x73_4 + 1)) ≤ (t118.length : Int) then ((slices_Concat_byte_byte.f (([x9_4, t123, t129, ((t118.take ((wrap64 (x73_4 + 1)) : Int).toNat).drop (x73_4 : Int).toNat)] : List (List Int)))).bind fun t140 => (block_Encode.l2 k4 a1 a2 t140 t117 t118 l0_0 (l0_0.length : Int) (wrap64 (x73_4 + 1)) l0_0 l0_1 l0_2 l0_3 l0_4)) else (none)) else (none)) = some (r1, r2, r3, r4, r5, r6, r7, r8, r9) := H
      have A50 := Aside0.mk A500
      clear A500
      have c51b0 := eq_true (of_decide_eq_true (by first | (with_reducible assumption) | assumption) : 0 ≤ x73_4)
      by_cases c52 : x73_4 ≤ (wrap64 (x73_4 + 1))
      rotate_left
      ·
       rw [if_neg c52] at H
       exact absurd H (by simp)
      rw [if_pos c52] at H
      have c52b0 := eq_true c52
      have c52b1 : decide (x73_4 ≤ (wrap64 (x73_4 + 1))) = true := decide_eq_true c52
      by_cases c53 : (wrap64 (x73_4 + 1)) ≤ (t118.length : Int)
      rotate_left
      ·
       rw [if_neg c53] at H
       exact absurd H (by simp)
      rw [if_pos c53] at H
      have c53b0 := eq_true c53
      have c53b1 : decide ((wrap64 (x73_4 + 1)) ≤ (t118.length : Int)) = true := decide_eq_true c53
      obtain ⟨y132, hy132⟩ : ∃ y_ : List Int, y_ = ((t118.take ((wrap64 (x73_4 + 1)) : Int).toNat).drop (x73_4 : Int).toNat) := ⟨_, rfl⟩
      replace H : ((slices_Concat_byte_byte.f (([x9_4, t123, t129, y132] : List (List Int)))).bind fun t140 => (block_Encode.l2 k4 a1 a2 t140 t117 t118 l0_0 (l0_0.length : Int) (wrap64 (x73_4 + 1)) l0_0 l0_1 l0_2 l0_3 l0_4)) = some (r1, r2, r3, r4, r5, r6, r7, r8, r9) := by first | (rw [hy132]; with_reducible exact H) | (have H2_ := (Option.bind_some _ _).symm.trans H; rw [hy132]; with_reducible exact H2_) | (have H2_ := (Option.bind_some _ _).symm.trans H; with_reducible exact H2_) | with_reducible exact H | (rw [hy132]; exact H) | exact H
      have Ny132 := Aside0.mk hy132
      clear hy132
      obtain ⟨y137, hy137⟩ : ∃ y_ : List (List Int), y_ = (([x9_4, t123, t129, y132] : List (List Int))) := ⟨_, rfl⟩
      replace H : ((slices_Concat_byte_byte.f y137).bind fun t140 => (block_Encode.l2 k4 a1 a2 t140 t117 t118 l0_0 (l0_0.length : Int) (wrap64 (x73_4 + 1)) l0_0 l0_1 l0_2 l0_3 l0_4)) = some (r1, r2, r3, r4, r5, r6, r7, r8, r9) := by first | (rw [hy137]; with_reducible exact H) | (have H2_ := (Option.bind_some _ _).symm.trans H; rw [hy137]; with_reducible exact H2_) | (have H2_ := (Option.bind_some _ _).symm.trans H; with_reducible exact H2_) | with_reducible exact H | (rw [hy137]; exact H) | exact H
      have Ny137 := Aside0.mk hy137
      clear hy137
      replace H := Option.bind_eq_some_iff.mp H
      obtain ⟨t140, A540, H⟩ := H
      replace H : (block_Encode.l2 k4 a1 a2 t140 t117 t118 l0_0 (l0_0.length : Int) (wrap64 (x73_4 + 1)) l0_0 l0_1 l0_2 l0_3 l0_4) = some (r1, r2, r3, r4, r5, r6, r7, r8, r9) := H
      have A54 := Aside0.mk A540
      clear A540
      have H' := Aside0.mk H
      clear H
      have p121 : 0 ≤ (x73_4 : Int) := of_decide_eq_true (by first | (with_reducible assumption) | assumption)
      have q121 : x73_4 < (l0_0.length : Int) := of_decide_eq_true (by first | (with_reducible assumption) | assumption)
      obtain ⟨ad121, e121, hx121_0, hx121_1, hx121_2⟩ := at_T56 HR0_0.out x73_4 p121 q121
      cases e121
      replace hx121_0 := (HB.out.cell (World.block_lt_of_cell? w _ hx121_0)).trans hx121_0
      replace hx121_1 := (HB.out.cell (World.block_lt_of_cell? w _ hx121_1)).trans hx121_1
      replace hx121_2 := (HB.out.cell (World.block_lt_of_cell? w _ hx121_2)).trans hx121_2
      replace p121 := eq_true p121
      replace q121 := eq_true q121
      try go_wp2_with (first | ((with_reducible refine gate_dst (N := 17) rfl ?_); refine box_event ?hg (N := 17) ?hd (cs := #[.int .i64 0, .bool false, .string (⟨#[]⟩ : ByteArray)]) (t := 56) ?hr ?_; (case hd => rfl); (case hg => rfl); (case hr => first | (go_simp; done) | (go_simp; rfl)); intro gb122 hg w55 hbox hb; replace HO_9 := krb HO_9 hb; replace HO_15 := krb HO_15 hb; have BK122 := Aside0.mk (hbox); have GW122 := Aside0.mk ((by rw [hg]; exact (below_size (Sq.kl2 HB GE101 GE102)) : w.heap.size ≤ gb122)); have GE122 := Aside0.mk ((by rw [hg]; exact (below_size (Sq.kl2 HB GE101 GE102)) : w.heap.size ≤ gb122)); replace HB := Aside0.mk (below_step (Sq.kl2 HB GE101 GE102) hb); have NB101_122 := Aside0.mk ((by rw [hg]; exact Nat.ne_of_lt (blk_lt (kb BK101)) : gb101 ≠ gb122)); have NB122_101 := Aside0.mk ((by rw [hg]; exact Nat.ne_of_gt (blk_lt (kb BK101)) : gb122 ≠ gb101)); replace BK101 := kbb BK101 hb; have NB102_122 := Aside0.mk ((by rw [hg]; exact Nat.ne_of_lt (blk_lt (kb BK102)) : gb102 ≠ gb122)); have NB122_102 := Aside0.mk ((by rw [hg]; exact Nat.ne_of_gt (blk_lt (kb BK102)) : gb122 ≠ gb102)); replace BK102 := kbb BK102 hb; clear hb hbox hg; have hnb56 := NB122_101.out; have hnc56 := NB101_122.out; have hnb57 := NB122_102.out; have hnc57 := NB102_122.out; obtain ⟨hcz58_0, hcz58_1, hcz58_2⟩ := Sq.c3 BK122; obtain ⟨hfz58_0, hfz58_1, hfz58_2⟩ := Sq.z3 BK122))
      obtain ⟨w59, hw_⟩ : ∃ x, x = (((w55.setCell ⟨gb122, 0, none⟩ (.int .i64 ((rd_T56 l0_0 x73_4).f0))).setCell ⟨gb122, 1, none⟩ (.bool ((rd_T56 l0_0 x73_4).f1))).setCell ⟨gb122, 2, none⟩ (.string ((rd_T56 l0_0 x73_4).f2))) := ⟨_, rfl⟩
      replace HO_9 : Aside0 (Kd.R (Kd.int .u8) 5 w59 w.heap.size (fun k_ => some k_ ≠ (v119 : Value).ownBlock) u9 x9_4) := ⟨by rw [hw_]; (with_reducible repeat (first | apply Kd.R_alloc | apply Kd.R_drewN | apply Kd.R_drew)); exact Kd.R_mono (Sq.rf3 HO_9 BK122) (fun _ hk => hk.1)⟩
      replace HO_15 : Aside0 (Kd.R (Kd.int .u8) 5 w59 w.heap.size (fun k_ => some k_ ≠ (u9 : Value).ownBlock) v119 t118) := ⟨by rw [hw_]; (with_reducible repeat (first | apply Kd.R_alloc | apply Kd.R_drewN | apply Kd.R_drew)); exact Kd.R_mono (Sq.rf3 HO_15 BK122) (fun _ hk => hk.1)⟩
      replace BK101 : Aside0 (w59.heap[gb101]? = some (.cells #[.slice (some ad121) l0_0.length c0_0, .slice A0_1 l0_1.length c0_1, .slice A0_2 l0_2.length c0_2, .slice A0_3 l0_3.length c0_3, .slice A0_4 l0_4.length c0_4] 27 (0, 0))) := ⟨by rw [hw_]; (with_reducible repeat (first | refine blk_drewN ?_ _ | refine blk_drew ?_ | refine blk_alloc ?_ _)); refine blk_far ?_ NB101_122.out _; (with_reducible repeat (first | refine blk_drewN ?_ _ | refine blk_drew ?_ | refine blk_alloc ?_ _)); refine blk_far ?_ NB101_122.out _; (with_reducible repeat (first | refine blk_drewN ?_ _ | refine blk_drew ?_ | refine blk_alloc ?_ _)); refine blk_far ?_ NB101_122.out _; exact Sq.kb BK101⟩
      replace BK102 : Aside0 (w59.heap[gb102]? = some (.cells #[.int .i64 0, .int .i64 0, .int .i64 0, .int .i64 0, .int .i64 0, .int .i64 0, .int .i64 0] 35 (0, 0))) := ⟨by rw [hw_]; (with_reducible repeat (first | refine blk_drewN ?_ _ | refine blk_drew ?_ | refine blk_alloc ?_ _)); refine blk_far ?_ NB102_122.out _; (with_reducible repeat (first | refine blk_drewN ?_ _ | refine blk_drew ?_ | refine blk_alloc ?_ _)); refine blk_far ?_ NB102_122.out _; (with_reducible repeat (first | refine blk_drewN ?_ _ | refine blk_drew ?_ | refine blk_alloc ?_ _)); refine blk_far ?_ NB102_122.out _; exact Sq.kb BK102⟩
      replace BK122 : Aside0 (w59.heap[gb122]? = some (.cells #[.int .i64 ((rd_T56 l0_0 x73_4).f0), .bool ((rd_T56 l0_0 x73_4).f1), .string ((rd_T56 l0_0 x73_4).f2)] 56 (0, 0))) := ⟨by rw [hw_]; (with_reducible repeat (first | refine blk_drewN ?_ _ | refine blk_drew ?_ | refine blk_alloc ?_ _)); refine blk_put (cs := #[.int .i64 ((rd_T56 l0_0 x73_4).f0), .bool ((rd_T56 l0_0 x73_4).f1), .string (⟨#[]⟩ : ByteArray)]) ?_ 2 _ rfl; (with_reducible repeat (first | refine blk_drewN ?_ _ | refine blk_drew ?_ | refine blk_alloc ?_ _)); refine blk_put (cs := #[.int .i64 ((rd_T56 l0_0 x73_4).f0), .bool false, .string (⟨#[]⟩ : ByteArray)]) ?_ 1 _ rfl; (with_reducible repeat (first | refine blk_drewN ?_ _ | refine blk_drew ?_ | refine blk_alloc ?_ _)); refine blk_put (cs := #[.int .i64 0, .bool false, .string (⟨#[]⟩ : ByteArray)]) ?_ 0 _ rfl; exact Sq.kb BK122⟩
      replace HB : Aside0 (Below w.heap.size w w59) := ⟨by rw [hw_]; exact Sq.kl3 HB GE101 GE102 GE122⟩
      rw [← hw_]
      clear hw_
      replace HO_9 := Aside0.mk (Kd.R_drew HO_9.out)
      replace HO_15 := Aside0.mk (Kd.R_drew HO_15.out)
      replace BK101 := Aside0.mk (blk_drew BK101.out)
      replace BK102 := Aside0.mk (blk_drew BK102.out)
      replace BK122 := Aside0.mk (blk_drew BK122.out)
      replace HB := Aside0.mk (below_drew1 HB.out)
      obtain ⟨Ao62, co62, eo62⟩ := Kd.R_slice HO_15.out
      (first | subst eo62 | (injection eo62 with f1_ f2_ f3_; have f4_ := f1_.symm; have f5_ := f3_.symm; clear f1_ f2_ f3_; subst f4_; subst f5_))
      have q61 : ((wrap64 (x73_4 + 1)) : Int) ≤ ((t118.length : Int) : Int) := of_decide_eq_true (by first | (with_reducible assumption) | assumption)
      obtain ⟨i061, hi061, _, hsz61, _⟩ := info_parts info5
      have hroom61 : t118.length ≤ co62 := (Kd.R_reads' HO_15.out).2.1
      have hC61 : Kd.F (Kd.int .u8) _ _ Ao62 t118.length t118 := (Kd.V_at (base := w.heap.size) (Kd.R_V (Kd.R_types (Kd.R_types (Kd.R_types (HO_15.out) BK101.out (by decide)) BK102.out (by decide)) BK122.out (by decide)))).2.2
      have ql61 : (x73_4 : Int) ≤ ((wrap64 (x73_4 + 1)) : Int) := of_decide_eq_true (by first | (with_reducible assumption) | assumption)
      have q061 : (0 : Int) ≤ (x73_4 : Int) := of_decide_eq_true (by first | (with_reducible assumption) | assumption)
      have hcut61 := cut_mid (P := Try.prog) 33 5 .i64 .i64 Try.underlying33 hi061 1 hsz61 Ao62 t118.length co62 x73_4 (wrap64 (x73_4 + 1)) q061 ql61 q61 hroom61
      have hr61 := Kd.F_mid (lo := (x73_4 : Int).toNat) (hi := ((wrap64 (x73_4 + 1)) : Int).toNat) (c := co62) hC61 (by omega) (by omega) hroom61
      obtain ⟨A61, hA61⟩ : ∃ A1, A1 = (if co62 = (x73_4 : Int).toNat then Ao62 else (Ao62 : Option Addr).map (·.add ((x73_4 : Int).toNat * 1))) := ⟨_, rfl⟩
      obtain ⟨c61, hc61⟩ : ∃ c1, c1 = co62 - (x73_4 : Int).toNat := ⟨_, rfl⟩
      have hy61 : y132.length = ((wrap64 (x73_4 + 1)) : Int).toNat - (x73_4 : Int).toNat := (by rw [Ny132.out, List.length_drop, List.length_take] <;> omega)
      rw [show ((t118).take ((wrap64 (x73_4 + 1)) : Int).toNat).drop (x73_4 : Int).toNat = y132 from Ny132.out.symm] at hr61
      replace hr61 : Kd.F (Kd.int .u8) _ _ A61 y132.length y132 := (by rw [hA61]; exact hr61)
      rw [← hy61, ← hA61, ← hc61] at hcut61
      have HO136 := Aside0.mk (show Kd.V (Kd.int .u8) 5 _ w.heap.size _ (.slice A61 y132.length c61) y132 from Kd.V_mk (by rw [hy61, hc61]; exact Nat.sub_le_sub_right (Nat.le_trans (by omega) hroom61) _) hr61)
      have HC136 := Aside0.mk (show y132.length ≤ c61 from by rw [hy61, hc61]; exact Nat.sub_le_sub_right (Nat.le_trans (by omega) hroom61) _)
      clear hr61 hC61 hroom61 hi061 hsz61 hc61
      have KY61 := Aside0.mk hy61
      have KA61 := Aside0.mk hA61
      clear hy61 hA61
      replace q61 := eq_true q61
      refine start_ (n := 17) (S := fun w' => w'.cell? ⟨gb122, 0, none⟩ = some (.int .i64 ((rd_T56 l0_0 x73_4).f0)) ∧ w'.cell? ⟨gb122, 1, none⟩ = some (.bool ((rd_T56 l0_0 x73_4).f1)) ∧ w'.cell? ⟨gb122, 2, none⟩ = some (.string ((rd_T56 l0_0 x73_4).f2))) (ds := []) (Sq.bm 17 0) (by kernel_rfl) rfl (by kernel_rfl) ⟨(blk_cell BK122.out 0).trans rfl, (blk_cell BK122.out 1).trans rfl, (blk_cell BK122.out 2).trans rfl⟩ (fun hHeld => ?_); refine with_tabW block_Encode.tab18 block_Encode.bits18 (fun HT_ HW_ => ?_)
      generalize w59.drew = w60 at HO_9 HO_15 BK101 BK102 BK122 HB HO136 hHeld ⊢
      refine Sq.pv 0 78 1 HT_ ?_
      refine Sq.pv 1 79 3 HT_ ?_
      refine Sq.pv 5 83 35 HT_ ?_
      refine Sq.pv 9 87 547 HT_ ?_
      refine Sq.pv 10 88 1571 HT_ ?_
      refine Sq.pv 11 89 3619 HT_ ?_
      refine Sq.pv 12 90 7715 HT_ ?_
      refine Sq.pv 13 91 15907 HT_ ?_
      refine Sq.tv 2 80 15911 HT_ HW_ hHeld ?_
      refine Sq.pv 3 81 15919 HT_ ?_
      refine Sq.tv 6 84 15983 HT_ HW_ hHeld ?_
      refine join_ (σ := Value × Value) 4 #[true, true, true, true, true, true, true, true, false, true, true, true, true, true, false, false, false] (fun s_ => [(82, s_.1), (85, s_.2)]) (fun s_ w' => (w'.cell? ⟨gb122, 0, none⟩ = some (.int .i64 ((rd_T56 l0_0 x73_4).f0)) ∧ w'.cell? ⟨gb122, 1, none⟩ = some (.bool ((rd_T56 l0_0 x73_4).f1)) ∧ w'.cell? ⟨gb122, 2, none⟩ = some (.string ((rd_T56 l0_0 x73_4).f2))) ∧ (Kd.R (Kd.int .u8) 5 w' w.heap.size (fun k_ => some k_ ≠ (.slice Ao62 t118.length co62 : Value).ownBlock ∧ some k_ ≠ (u9 : Value).ownBlock) s_.1 t123) ∧ (Kd.R Kd.bool 4 w' w.heap.size (fun _ => True) s_.2 y126) ∧ (Kd.V (Kd.int .u8) 5 w' w.heap.size (fun k_ => some k_ ≠ (s_.1 : Value).ownBlock ∧ some k_ ≠ (s_.2 : Value).ownBlock ∧ some k_ ≠ (u9 : Value).ownBlock ∧ k_ ≠ gb101 ∧ k_ ≠ gb102 ∧ k_ ≠ gb122) (.slice A61 y132.length c61) y132) ∧ (Kd.R (Kd.int .u8) 5 w' w.heap.size (fun k_ => some k_ ≠ (s_.1 : Value).ownBlock ∧ some k_ ≠ (u9 : Value).ownBlock) (.slice Ao62 t118.length co62) t118) ∧ (Kd.R (Kd.int .u8) 5 w' w.heap.size (fun k_ => some k_ ≠ (s_.1 : Value).ownBlock ∧ some k_ ≠ (.slice Ao62 t118.length co62 : Value).ownBlock) u9 x9_4) ∧ (w'.heap[gb101]? = some (.cells #[.slice (some ad121) l0_0.length c0_0, .slice A0_1 l0_1.length c0_1, .slice A0_2 l0_2.length c0_2, .slice A0_3 l0_3.length c0_3, .slice A0_4 l0_4.length c0_4] 27 (0, 0))) ∧ (w'.heap[gb102]? = some (.cells #[.int .i64 0, .int .i64 0, .int .i64 0, .int .i64 0, .int .i64 0, .int .i64 0, .int .i64 0] 35 (0, 0))) ∧ (w'.heap[gb122]? = some (.cells #[.int .i64 ((rd_T56 l0_0 x73_4).f0), .bool ((rd_T56 l0_0 x73_4).f1), .string ((rd_T56 l0_0 x73_4).f2)] 56 (0, 0))) ∧ (Below w.heap.size w w')) ?_ ?_
      rotate_left
      ·
       intro hCont
       refine two_ (i := 4) (j := 7) (Ni := some 82) (Nj := some 85) (bm 17 15999) (bm 17 16111) rfl rfl rfl rfl (two_of HT_.out (by kernel_rfl)) (by decide) (by decide) (fun K hK => ?_) (fun K hK => ?_)
       ·
        skip
        refine goes_ Try.func26 (by kernel_rfl) rfl #[.slice none 0 0, .int .i64 4, .int .u64 (IntKind.u64.wrap ((rd_T56 l0_0 x73_4).f0))] (by rfl) rfl rfl (by (try simp only [List.map_toArray, List.map_cons, List.map_nil]); first | done | rfl | (simp only [List.length_drop, List.length_take]; rfl)) ?_
        refine (octets_Put.calls _ _ ([] : List Int) 4 (IntKind.u64.wrap ((rd_T56 l0_0 x73_4).f0)) t123 _ ?side1 ?side2 A49.out).mono ?_
        (case side1 => exact Kd.C_nil _ _)
        (case side2 => exact Nat.le_refl _)
        rintro e w63 ⟨v124, rfl, ho0, hb⟩
        refine ⟨_, rfl, ?_⟩
        replace HO136 := Aside0.mk (Kd.V_elder' (by (with_reducible repeat (first | apply Kd.V_alloc | apply Kd.V_drewN | apply Kd.V_drew)); exact HO136.out) (Kd.R_base ho0) hb)
        have HO125 := Aside0.mk (Kd.R_lower (Kd.R_new' (Kd.R_new' ho0 (Kd.R_lt (kr HO_9))) (Kd.R_lt (kr HO_15))) (below_size (Sq.kl3 HB GE101 GE102 GE122)))
        replace HO_9 := Aside0.mk (Kd.R_elder' (kr HO_9) (Kd.R_base ho0) hb)
        replace HO_15 := Aside0.mk (Kd.R_elder' (kr HO_15) (Kd.R_base ho0) hb)
        replace BK101 := kbb BK101 hb
        replace BK102 := kbb BK102 hb
        replace BK122 := kbb BK122 hb
        replace HB := Aside0.mk (below_step (Sq.kl3 HB GE101 GE102 GE122) hb)
        (try clear hb)
        (try clear hk)
        (try clear hi)
        (try clear ho0)
        refine hK.out _ _ ⟨(blk_cell BK122.out 0).trans rfl, (blk_cell BK122.out 1).trans rfl, (blk_cell BK122.out 2).trans rfl⟩ (fun hHeld => ?_)
        clear hK K
        refine norm_ (a' := ?_) ?_ ?_
        rotate_left
        ·
         show Act.put _ (some 82) _ = _
         simp only [Act.put, List.setIfInBounds_toArray, List.set_cons_zero, List.set_cons_succ, i64_w, i32_w]
         rfl
        refine one_ (i := 7) (N := some 85) (bm 17 16127) rfl rfl (one_of HT_.out (by kernel_rfl)) (by decide) (fun K hK => ?_)
        refine Kd.R_lit_step Kd.bool _ 4 ?hg (N := 85) ?hd (xs := ([(rd_T56 l0_0 x73_4).f1] : List Bool)) (inner := [.bool ((rd_T56 l0_0 x73_4).f1)]) (ok := fun _ => True) (okp := fun _ => True) ?hr ?hp (fun _ hk => hk) trivial (Below.refl _ _) (Nat.le_refl _) (by simp) ?_; (case hd => rfl); (case hg => rfl); (case hr => first | (go_simp; done) | (go_simp; rfl)); (case hp => exact (Reps.one (show Kd.M Kd.bool _ _ _ ((rd_T56 l0_0 x73_4).f1) [.bool ((rd_T56 l0_0 x73_4).f1)] from rfl) (Reps.none _ _)))
        intro v127 w64 ho65 hb hg_ hnew_
        clear hg_ hnew_
        (first | rw [← Ny126.out] at ho65 | (simp only [Int.reduceToNat] at ho65; rw [← Ny126.out] at ho65))
        replace HO_9 := krb HO_9 hb
        replace HO_15 := krb HO_15 hb
        replace HO136 := Aside0.mk (Kd.V_elder' (by (with_reducible repeat (first | apply Kd.V_alloc | apply Kd.V_drewN | apply Kd.V_drew)); exact HO136.out) (Kd.R_base ho65) hb)
        replace HO125 := krb HO125 hb
        have HO128 := Aside0.mk (Kd.R_lower ho65 (below_size (Sq.kl3 HB GE101 GE102 GE122)))
        replace BK101 := kbb BK101 hb
        replace BK102 := kbb BK102 hb
        replace BK122 := kbb BK122 hb
        replace HB := Aside0.mk (below_step (Sq.kl3 HB GE101 GE102 GE122) hb)
        clear hb ho65
        refine hK.out _ _ ⟨(blk_cell BK122.out 0).trans rfl, (blk_cell BK122.out 1).trans rfl, (blk_cell BK122.out 2).trans rfl⟩ (fun hHeld => ?_)
        clear hK K
        refine norm_ (a' := ?_) ?_ ?_
        rotate_left
        ·
         show Act.put _ (some 85) _ = _
         simp only [Act.put, List.setIfInBounds_toArray, List.set_cons_zero, List.set_cons_succ, i64_w, i32_w]
         rfl
        exact norm_ (by simp only [putAll, Act.put, List.setIfInBounds_toArray, List.set_cons_zero, List.set_cons_succ]) (hCont (v124, v127) _ ⟨hHeld, (by (with_reducible repeat (first | apply Kd.R_alloc | apply Kd.R_drewN | apply Kd.R_drew)); exact Kd.R_mono HO125.out (fun _ hk => ⟨hk.2, hk.1.2⟩)), (kr HO128), (by (with_reducible repeat (first | apply Kd.V_alloc | apply Kd.V_drewN | apply Kd.V_drew)); exact Kd.V_mono HO136.out (fun _ hk => ⟨hk.1.2, ⟨hk.2, ⟨hk.1.1.1.1.1, ⟨hk.1.1.1.1.2, ⟨hk.1.1.1.2, hk.1.1.2⟩⟩⟩⟩⟩)), (by (with_reducible repeat (first | apply Kd.R_alloc | apply Kd.R_drewN | apply Kd.R_drew)); exact Kd.R_mono HO_15.out (fun _ hk => ⟨hk.2, hk.1⟩)), (by (with_reducible repeat (first | apply Kd.R_alloc | apply Kd.R_drewN | apply Kd.R_drew)); exact Kd.R_mono HO_9.out (fun _ hk => ⟨hk.2, hk.1⟩)), (kb BK101), (kb BK102), (kb BK122), (Sq.kl3 HB GE101 GE102 GE122)⟩)
       skip
       refine Kd.R_lit_step Kd.bool _ 4 ?hg (N := 85) ?hd (xs := ([(rd_T56 l0_0 x73_4).f1] : List Bool)) (inner := [.bool ((rd_T56 l0_0 x73_4).f1)]) (ok := fun _ => True) (okp := fun _ => True) ?hr ?hp (fun _ hk => hk) trivial (Below.refl _ _) (Nat.le_refl _) (by simp) ?_; (case hd => rfl); (case hg => rfl); (case hr => first | (go_simp; done) | (go_simp; rfl)); (case hp => exact (Reps.one (show Kd.M Kd.bool _ _ _ ((rd_T56 l0_0 x73_4).f1) [.bool ((rd_T56 l0_0 x73_4).f1)] from rfl) (Reps.none _ _)))
       intro v127 w63 ho64 hb hg_ hnew_
       clear hg_ hnew_
       (first | rw [← Ny126.out] at ho64 | (simp only [Int.reduceToNat] at ho64; rw [← Ny126.out] at ho64))
       replace HO_9 := krb HO_9 hb
       replace HO_15 := krb HO_15 hb
       replace HO136 := Aside0.mk (Kd.V_elder' (by (with_reducible repeat (first | apply Kd.V_alloc | apply Kd.V_drewN | apply Kd.V_drew)); exact HO136.out) (Kd.R_base ho64) hb)
       have HO128 := Aside0.mk (Kd.R_lower ho64 (below_size (Sq.kl3 HB GE101 GE102 GE122)))
       replace BK101 := kbb BK101 hb
       replace BK102 := kbb BK102 hb
       replace BK122 := kbb BK122 hb
       replace HB := Aside0.mk (below_step (Sq.kl3 HB GE101 GE102 GE122) hb)
       clear hb ho64
       refine hK.out _ _ ⟨(blk_cell BK122.out 0).trans rfl, (blk_cell BK122.out 1).trans rfl, (blk_cell BK122.out 2).trans rfl⟩ (fun hHeld => ?_)
       clear hK K
       refine norm_ (a' := ?_) ?_ ?_
       rotate_left
       ·
        show Act.put _ (some 85) _ = _
        simp only [Act.put, List.setIfInBounds_toArray, List.set_cons_zero, List.set_cons_succ, i64_w, i32_w]
        rfl
       refine one_ (i := 4) (N := some 82) (bm 17 16127) rfl rfl (one_of HT_.out (by kernel_rfl)) (by decide) (fun K hK => ?_)
       refine goes_ Try.func26 (by kernel_rfl) rfl #[.slice none 0 0, .int .i64 4, .int .u64 (IntKind.u64.wrap ((rd_T56 l0_0 x73_4).f0))] (by rfl) rfl rfl (by (try simp only [List.map_toArray, List.map_cons, List.map_nil]); first | done | rfl | (simp only [List.length_drop, List.length_take]; rfl)) ?_
       refine (octets_Put.calls _ _ ([] : List Int) 4 (IntKind.u64.wrap ((rd_T56 l0_0 x73_4).f0)) t123 _ ?side1 ?side2 A49.out).mono ?_
       (case side1 => exact Kd.C_nil _ _)
       (case side2 => exact Nat.le_refl _)
       rintro e w65 ⟨v124, rfl, ho0, hb⟩
       refine ⟨_, rfl, ?_⟩
       replace HO136 := Aside0.mk (Kd.V_elder' (by (with_reducible repeat (first | apply Kd.V_alloc | apply Kd.V_drewN | apply Kd.V_drew)); exact HO136.out) (Kd.R_base ho0) hb)
       replace HO128 := krb HO128 hb
       have HO125 := Aside0.mk (Kd.R_lower (Kd.R_new' (Kd.R_new' ho0 (Kd.R_lt (kr HO_9))) (Kd.R_lt (kr HO_15))) (below_size (Sq.kl3 HB GE101 GE102 GE122)))
       replace HO_9 := Aside0.mk (Kd.R_elder' (kr HO_9) (Kd.R_base ho0) hb)
       replace HO_15 := Aside0.mk (Kd.R_elder' (kr HO_15) (Kd.R_base ho0) hb)
       replace BK101 := kbb BK101 hb
       replace BK102 := kbb BK102 hb
       replace BK122 := kbb BK122 hb
       replace HB := Aside0.mk (below_step (Sq.kl3 HB GE101 GE102 GE122) hb)
       (try clear hb)
       (try clear hk)
       (try clear hi)
       (try clear ho0)
       refine hK.out _ _ ⟨(blk_cell BK122.out 0).trans rfl, (blk_cell BK122.out 1).trans rfl, (blk_cell BK122.out 2).trans rfl⟩ (fun hHeld => ?_)
       clear hK K
       refine norm_ (a' := ?_) ?_ ?_
       rotate_left
       ·
        show Act.put _ (some 82) _ = _
        simp only [Act.put, List.setIfInBounds_toArray, List.set_cons_zero, List.set_cons_succ, i64_w, i32_w]
        rfl
       exact norm_ (by simp only [putAll, Act.put, List.setIfInBounds_toArray, List.set_cons_zero, List.set_cons_succ]) (hCont (v124, v127) _ ⟨hHeld, (by (with_reducible repeat (first | apply Kd.R_alloc | apply Kd.R_drewN | apply Kd.R_drew)); exact Kd.R_mono HO125.out (fun _ hk => ⟨hk.2, hk.1.2⟩)), (kr HO128), (by (with_reducible repeat (first | apply Kd.V_alloc | apply Kd.V_drewN | apply Kd.V_drew)); exact Kd.V_mono HO136.out (fun _ hk => ⟨hk.2, ⟨hk.1.2, ⟨hk.1.1.1.1.1, ⟨hk.1.1.1.1.2, ⟨hk.1.1.1.2, hk.1.1.2⟩⟩⟩⟩⟩)), (by (with_reducible repeat (first | apply Kd.R_alloc | apply Kd.R_drewN | apply Kd.R_drew)); exact Kd.R_mono HO_15.out (fun _ hk => ⟨hk.2, hk.1⟩)), (by (with_reducible repeat (first | apply Kd.R_alloc | apply Kd.R_drewN | apply Kd.R_drew)); exact Kd.R_mono HO_9.out (fun _ hk => ⟨hk.2, hk.1⟩)), (kb BK101), (kb BK102), (kb BK122), (Sq.kl3 HB GE101 GE102 GE122)⟩)
      rintro ⟨v124, v127⟩ w66 ⟨hS_, h0_, h1_, h2_, h3_, h4_, h5_, h6_, h7_, h8_⟩
      have HO125 : Aside0 (Kd.R (Kd.int .u8) 5 w66 w.heap.size (fun k_ => some k_ ≠ (.slice Ao62 t118.length co62 : Value).ownBlock ∧ some k_ ≠ (u9 : Value).ownBlock) v124 t123) := ⟨h0_⟩
      have HO128 : Aside0 (Kd.R Kd.bool 4 w66 w.heap.size (fun _ => True) v127 y126) := ⟨h1_⟩
      have HO136 : Aside0 (Kd.V (Kd.int .u8) 5 w66 w.heap.size (fun k_ => some k_ ≠ (v124 : Value).ownBlock ∧ some k_ ≠ (v127 : Value).ownBlock ∧ some k_ ≠ (u9 : Value).ownBlock ∧ k_ ≠ gb101 ∧ k_ ≠ gb102 ∧ k_ ≠ gb122) (.slice A61 y132.length c61) y132) := ⟨h2_⟩
      replace HO_15 : Aside0 (Kd.R (Kd.int .u8) 5 w66 w.heap.size (fun k_ => some k_ ≠ (v124 : Value).ownBlock ∧ some k_ ≠ (u9 : Value).ownBlock) (.slice Ao62 t118.length co62) t118) := ⟨h3_⟩
      replace HO_9 : Aside0 (Kd.R (Kd.int .u8) 5 w66 w.heap.size (fun k_ => some k_ ≠ (v124 : Value).ownBlock ∧ some k_ ≠ (.slice Ao62 t118.length co62 : Value).ownBlock) u9 x9_4) := ⟨h4_⟩
      replace BK101 : Aside0 (w66.heap[gb101]? = some (.cells #[.slice (some ad121) l0_0.length c0_0, .slice A0_1 l0_1.length c0_1, .slice A0_2 l0_2.length c0_2, .slice A0_3 l0_3.length c0_3, .slice A0_4 l0_4.length c0_4] 27 (0, 0))) := ⟨h5_⟩
      replace BK102 : Aside0 (w66.heap[gb102]? = some (.cells #[.int .i64 0, .int .i64 0, .int .i64 0, .int .i64 0, .int .i64 0, .int .i64 0, .int .i64 0] 35 (0, 0))) := ⟨h6_⟩
      replace BK122 : Aside0 (w66.heap[gb122]? = some (.cells #[.int .i64 ((rd_T56 l0_0 x73_4).f0), .bool ((rd_T56 l0_0 x73_4).f1), .string ((rd_T56 l0_0 x73_4).f2)] 56 (0, 0))) := ⟨h7_⟩
      replace HB : Aside0 (Below w.heap.size w w66) := ⟨h8_⟩
      clear h0_ h1_ h2_ h3_ h4_ h5_ h6_ h7_ h8_
      have hHeld : w66.cell? ⟨gb122, 0, none⟩ = some (.int .i64 ((rd_T56 l0_0 x73_4).f0)) ∧ w66.cell? ⟨gb122, 1, none⟩ = some (.bool ((rd_T56 l0_0 x73_4).f1)) ∧ w66.cell? ⟨gb122, 2, none⟩ = some (.string ((rd_T56 l0_0 x73_4).f2)) := hS_
      obtain ⟨Ao67, co67, eo67⟩ := Kd.R_slice HO128.out
      (first | subst eo67 | (injection eo67 with f1_ f2_ f3_; have f4_ := f1_.symm; have f5_ := f3_.symm; clear f1_ f2_ f3_; subst f4_; subst f5_))
      refine norm_ (a' := ?_) ?_ ?_
      rotate_left
      ·
       simp only [putAll, Act.put, List.setIfInBounds_toArray, List.set_cons_zero, List.set_cons_succ]
       rfl
      refine one_ (i := 8) (N := some 86) (bm 17 16383) rfl rfl (one_of HT_.out (by kernel_rfl)) (by decide) (fun K hK => ?_)
      refine goes_ Try.func29 (by kernel_rfl) rfl #[.slice Ao67 y126.length co67] (by rfl) rfl rfl (by (try simp only [List.map_toArray, List.map_cons, List.map_nil]); first | done | rfl | (simp only [List.length_drop, List.length_take]; rfl)) ?_
      with_reducible refine (block_truths.calls _ _ y126 t129 _ ?side1 ?side2 A50.out).mono ?_
      (case side1 => exact Sq.qc HO128)
      (case side2 => exact Sq.ql HO128)
      rintro e w68 ⟨v130, rfl, ho0, hb⟩
      refine ⟨_, rfl, ?_⟩
      replace HO136 := Aside0.mk (Kd.V_elder' (by (with_reducible repeat (first | apply Kd.V_alloc | apply Kd.V_drewN | apply Kd.V_drew)); exact HO136.out) (Kd.R_base ho0) hb)
      replace HO128 := krb HO128 hb
      have HO131 := Aside0.mk (Kd.R_lower (Kd.R_new' (Kd.R_new' (Kd.R_new' ho0 (Kd.R_lt (kr HO_9))) (Kd.R_lt (kr HO_15))) (Kd.R_lt (kr HO125))) (below_size (Sq.kl3 HB GE101 GE102 GE122)))
      replace HO_9 := Aside0.mk (Kd.R_elder' (kr HO_9) (Kd.R_base ho0) hb)
      replace HO_15 := Aside0.mk (Kd.R_elder' (kr HO_15) (Kd.R_base ho0) hb)
      replace HO125 := Aside0.mk (Kd.R_elder' (kr HO125) (Kd.R_base ho0) hb)
      replace BK101 := kbb BK101 hb
      replace BK102 := kbb BK102 hb
      replace BK122 := kbb BK122 hb
      replace HB := Aside0.mk (below_step (Sq.kl3 HB GE101 GE102 GE122) hb)
      (try clear hb)
      (try clear hk)
      (try clear hi)
      (try clear ho0)
      obtain ⟨Ao69, co69, eo69⟩ := Kd.R_slice HO_9.out
      (first | subst eo69 | (injection eo69 with f1_ f2_ f3_; have f4_ := f1_.symm; have f5_ := f3_.symm; clear f1_ f2_ f3_; subst f4_; subst f5_))
      obtain ⟨Ao70, co70, eo70⟩ := Kd.R_slice HO125.out
      (first | subst eo70 | (injection eo70 with f1_ f2_ f3_; have f4_ := f1_.symm; have f5_ := f3_.symm; clear f1_ f2_ f3_; subst f4_; subst f5_))
      obtain ⟨Ao71, co71, eo71⟩ := Kd.R_slice HO131.out
      (first | subst eo71 | (injection eo71 with f1_ f2_ f3_; have f4_ := f1_.symm; have f5_ := f3_.symm; clear f1_ f2_ f3_; subst f4_; subst f5_))
      refine hK.out _ _ ⟨(blk_cell BK122.out 0).trans rfl, (blk_cell BK122.out 1).trans rfl, (blk_cell BK122.out 2).trans rfl⟩ (fun hHeld => ?_)
      clear hK K
      refine norm_ (a' := ?_) ?_ ?_
      rotate_left
      ·
       show Act.put _ (some 86) _ = _
       simp only [Act.put, List.setIfInBounds_toArray, List.set_cons_zero, List.set_cons_succ, i64_w, i32_w]
       rfl
      refine one_ (i := 14) (N := some 92) (bm 17 32767) rfl rfl (one_of HT_.out (by kernel_rfl)) (by decide) (fun K hK => ?_)
      refine Kd.N_lit_step (Kd.slice 5 (Kd.int .u8)) _ 33 ?hg (N' := 92) ?hd (xs := ([x9_4, t123, t129, y132] : List (List Int))) (inner := [.slice Ao69 x9_4.length co69, .slice Ao70 t123.length co70, .slice Ao71 t129.length co71, .slice A61 y132.length c61]) (ok := (fun k_ => some k_ ≠ (.slice Ao67 y126.length co67 : Value).ownBlock ∧ k_ ≠ gb101 ∧ k_ ≠ gb102 ∧ k_ ≠ gb122)) (okp := (fun k_ => some k_ ≠ (.slice Ao67 y126.length co67 : Value).ownBlock ∧ k_ ≠ gb101 ∧ k_ ≠ gb102 ∧ k_ ≠ gb122)) ?hr ?hp (fun _ hk => hk) ((show ∀ k_, w68.heap.size ≤ k_ → (fun k_ => some k_ ≠ (.slice Ao67 y126.length co67 : Value).ownBlock ∧ k_ ≠ gb101 ∧ k_ ≠ gb102 ∧ k_ ≠ gb122) k_ from fun k_ hk => ⟨Kd.fresh' (Kd.R_lt (kr HO128)) k_ hk, Kd.freshB (g := gb101) (o := .cells #[.slice (some ad121) l0_0.length c0_0, .slice A0_1 l0_1.length c0_1, .slice A0_2 l0_2.length c0_2, .slice A0_3 l0_3.length c0_3, .slice A0_4 l0_4.length c0_4] 27 (0, 0)) (kb BK101) k_ hk, Kd.freshB (g := gb102) (o := .cells #[.int .i64 0, .int .i64 0, .int .i64 0, .int .i64 0, .int .i64 0, .int .i64 0, .int .i64 0] 35 (0, 0)) (kb BK102) k_ hk, Kd.freshB (g := gb122) (o := .cells #[.int .i64 ((rd_T56 l0_0 x73_4).f0), .bool ((rd_T56 l0_0 x73_4).f1), .string ((rd_T56 l0_0 x73_4).f2)] 56 (0, 0)) (kb BK122) k_ hk⟩) _ (Nat.le_refl _)) (Below.refl _ _) (Nat.le_refl _) (by simp) ?_; (case hd => rfl); (case hg => rfl); (case hr => first | (go_simp; done) | (go_simp; rfl)); (case hp => exact (Reps.one (show Kd.FK (Kd.slice 5 (Kd.int .u8)) _ _ x9_4 [.slice Ao69 x9_4.length co69] from (Kd.FK_slice_mk (Kd.R_reads' (Kd.R_mono (ok' := (fun k_ => some k_ ≠ (.slice Ao67 y126.length co67 : Value).ownBlock ∧ k_ ≠ gb101 ∧ k_ ≠ gb102 ∧ k_ ≠ gb122)) (Kd.R_types (Kd.R_types (Kd.R_types (Kd.R_apart' (HO_9.out) (Kd.R_typed HO128.out) (by decide)) BK101.out (by decide)) BK102.out (by decide)) BK122.out (by decide)) (fun k_ hk => ⟨hk.1.1.1.2, ⟨hk.1.1.2, ⟨hk.1.2, hk.2⟩⟩⟩))).2.1 (Kd.R_F (Kd.R_mono (ok' := (fun k_ => some k_ ≠ (.slice Ao67 y126.length co67 : Value).ownBlock ∧ k_ ≠ gb101 ∧ k_ ≠ gb102 ∧ k_ ≠ gb122)) (Kd.R_types (Kd.R_types (Kd.R_types (Kd.R_apart' (HO_9.out) (Kd.R_typed HO128.out) (by decide)) BK101.out (by decide)) BK102.out (by decide)) BK122.out (by decide)) (fun k_ hk => ⟨hk.1.1.1.2, ⟨hk.1.1.2, ⟨hk.1.2, hk.2⟩⟩⟩))))) (Reps.one (show Kd.FK (Kd.slice 5 (Kd.int .u8)) _ _ t123 [.slice Ao70 t123.length co70] from (Kd.FK_slice_mk (Kd.R_reads' (Kd.R_mono (ok' := (fun k_ => some k_ ≠ (.slice Ao67 y126.length co67 : Value).ownBlock ∧ k_ ≠ gb101 ∧ k_ ≠ gb102 ∧ k_ ≠ gb122)) (Kd.R_types (Kd.R_types (Kd.R_types (Kd.R_apart' (HO125.out) (Kd.R_typed HO128.out) (by decide)) BK101.out (by decide)) BK102.out (by decide)) BK122.out (by decide)) (fun k_ hk => ⟨hk.1.1.1.2, ⟨hk.1.1.2, ⟨hk.1.2, hk.2⟩⟩⟩))).2.1 (Kd.R_F (Kd.R_mono (ok' := (fun k_ => some k_ ≠ (.slice Ao67 y126.length co67 : Value).ownBlock ∧ k_ ≠ gb101 ∧ k_ ≠ gb102 ∧ k_ ≠ gb122)) (Kd.R_types (Kd.R_types (Kd.R_types (Kd.R_apart' (HO125.out) (Kd.R_typed HO128.out) (by decide)) BK101.out (by decide)) BK102.out (by decide)) BK122.out (by decide)) (fun k_ hk => ⟨hk.1.1.1.2, ⟨hk.1.1.2, ⟨hk.1.2, hk.2⟩⟩⟩))))) (Reps.one (show Kd.FK (Kd.slice 5 (Kd.int .u8)) _ _ t129 [.slice Ao71 t129.length co71] from (Kd.FK_slice_mk (Kd.R_reads' (Kd.R_mono (ok' := (fun k_ => some k_ ≠ (.slice Ao67 y126.length co67 : Value).ownBlock ∧ k_ ≠ gb101 ∧ k_ ≠ gb102 ∧ k_ ≠ gb122)) (Kd.R_types (Kd.R_types (Kd.R_types (Kd.R_apart' (HO131.out) (Kd.R_typed HO128.out) (by decide)) BK101.out (by decide)) BK102.out (by decide)) BK122.out (by decide)) (fun k_ hk => ⟨hk.1.1.1.2, ⟨hk.1.1.2, ⟨hk.1.2, hk.2⟩⟩⟩))).2.1 (Kd.R_F (Kd.R_mono (ok' := (fun k_ => some k_ ≠ (.slice Ao67 y126.length co67 : Value).ownBlock ∧ k_ ≠ gb101 ∧ k_ ≠ gb102 ∧ k_ ≠ gb122)) (Kd.R_types (Kd.R_types (Kd.R_types (Kd.R_apart' (HO131.out) (Kd.R_typed HO128.out) (by decide)) BK101.out (by decide)) BK102.out (by decide)) BK122.out (by decide)) (fun k_ hk => ⟨hk.1.1.1.2, ⟨hk.1.1.2, ⟨hk.1.2, hk.2⟩⟩⟩))))) (Reps.one (show Kd.FK (Kd.slice 5 (Kd.int .u8)) _ _ y132 [.slice A61 y132.length c61] from (Kd.FK_slice_mk (Kd.V_reads' (Kd.V_mono (ok' := (fun k_ => some k_ ≠ (.slice Ao67 y126.length co67 : Value).ownBlock ∧ k_ ≠ gb101 ∧ k_ ≠ gb102 ∧ k_ ≠ gb122)) (HO136.out) (fun k_ hk => ⟨hk.1.2.1, ⟨hk.1.2.2.2.1, ⟨hk.1.2.2.2.2.1, hk.1.2.2.2.2.2⟩⟩⟩))).2.1 (Kd.V_F (Kd.V_mono (ok' := (fun k_ => some k_ ≠ (.slice Ao67 y126.length co67 : Value).ownBlock ∧ k_ ≠ gb101 ∧ k_ ≠ gb102 ∧ k_ ≠ gb122)) (HO136.out) (fun k_ hk => ⟨hk.1.2.1, ⟨hk.1.2.2.2.1, ⟨hk.1.2.2.2.2.1, hk.1.2.2.2.2.2⟩⟩⟩))))) (Reps.none _ _))))))
      intro v138 w72 ho73 hb hg_ hnew_
      clear hg_ hnew_
      (first | rw [← Ny137.out] at ho73 | (simp only [Int.reduceToNat] at ho73; rw [← Ny137.out] at ho73))
      replace HO_15 := krb HO_15 hb
      replace HO136 := Aside0.mk (Kd.V_elder' (by (with_reducible repeat (first | apply Kd.V_alloc | apply Kd.V_drewN | apply Kd.V_drew)); exact HO136.out) (Kd.N_base ho73) hb)
      replace HO128 := krb HO128 hb
      have HO139 := Aside0.mk (Kd.N_lower ho73 (below_size (Sq.kl3 HB GE101 GE102 GE122)))
      replace BK101 := kbb BK101 hb
      replace BK102 := kbb BK102 hb
      replace BK122 := kbb BK122 hb
      replace HB := Aside0.mk (below_step (Sq.kl3 HB GE101 GE102 GE122) hb)
      clear HO125 HO131 HO_9 hb ho73
      obtain ⟨Ao74, co74, eo74⟩ := Kd.N_slice HO139.out
      (first | subst eo74 | (injection eo74 with f1_ f2_ f3_; have f4_ := f1_.symm; have f5_ := f3_.symm; clear f1_ f2_ f3_; subst f4_; subst f5_))
      refine hK.out _ _ ⟨(blk_cell BK122.out 0).trans rfl, (blk_cell BK122.out 1).trans rfl, (blk_cell BK122.out 2).trans rfl⟩ (fun hHeld => ?_)
      clear hK K
      refine norm_ (a' := ?_) ?_ ?_
      rotate_left
      ·
       show Act.put _ (some 92) _ = _
       simp only [Act.put, List.setIfInBounds_toArray, List.set_cons_zero, List.set_cons_succ, i64_w, i32_w]
       rfl
      refine one_ (i := 15) (N := some 93) (bm 17 65535) rfl rfl (one_of HT_.out (by kernel_rfl)) (by decide) (fun K hK => ?_)
      refine goes_ Try.func28 (by kernel_rfl) rfl #[.slice Ao74 y137.length co74] (by rfl) rfl rfl (by (try simp only [List.map_toArray, List.map_cons, List.map_nil]); first | done | rfl | (simp only [List.length_drop, List.length_take]; rfl)) ?_
      with_reducible refine (slices_Concat_byte_byte.calls _ _ y137 t140 _ ?side1 ?side2 A54.out).mono ?_
      (case side1 => repeat (first | exact (Kd.N_reads' HO139.out).2.2 | (with_reducible refine Kd.C_alloc ?_ _) | (with_reducible refine Kd.C_drewN ?_ _) | (with_reducible refine Kd.C_drew ?_)))
      (case side2 => exact (Kd.N_reads' HO139.out).2.1)
      rintro e w75 ⟨v141, rfl, ho0, hb⟩
      refine ⟨_, rfl, ?_⟩
      replace HO136 := Aside0.mk (Kd.V_elder' (by (with_reducible repeat (first | apply Kd.V_alloc | apply Kd.V_drewN | apply Kd.V_drew)); exact HO136.out) (Kd.R_base ho0) hb)
      replace HO128 := krb HO128 hb
      replace HO139 := Aside0.mk (Kd.N_elder' (by (with_reducible repeat (first | apply Kd.N_alloc | apply Kd.N_drewN | apply Kd.N_drew)); exact HO139.out) (Kd.R_base ho0) hb)
      have HO142 := Aside0.mk (Kd.R_lower (Kd.R_new' ho0 (Kd.R_lt (kr HO_15))) (below_size (Sq.kl3 HB GE101 GE102 GE122)))
      replace HO_15 := Aside0.mk (Kd.R_elder' (kr HO_15) (Kd.R_base ho0) hb)
      replace BK101 := kbb BK101 hb
      replace BK102 := kbb BK102 hb
      replace BK122 := kbb BK122 hb
      replace HB := Aside0.mk (below_step (Sq.kl3 HB GE101 GE102 GE122) hb)
      (try clear hb)
      (try clear hk)
      (try clear hi)
      (try clear ho0)
      refine hK.out _ _ ⟨(blk_cell BK122.out 0).trans rfl, (blk_cell BK122.out 1).trans rfl, (blk_cell BK122.out 2).trans rfl⟩ (fun hHeld => ?_)
      clear hK K
      refine norm_ (a' := ?_) ?_ ?_
      rotate_left
      ·
       show Act.put _ (some 93) _ = _
       simp only [Act.put, List.setIfInBounds_toArray, List.set_cons_zero, List.set_cons_succ, i64_w, i32_w]
       rfl
      refine Sq.pv 16 9 131071 HT_ ?_
      refine done_ (done_of HT_.out (by kernel_rfl)) ?_
      try go_wp2
      go_roundg k4
      case measure => have := HJ3.out; have := HK2.out; have := HK3.out; have := HK4.out; omega
      case rel => exact ⟨(t140), (wrap64 (x73_4 + 1)), (by first | rfl | (simp; done) | (simp [*]; done)), H', ⟨by have := HJ3.out; have := HK2.out; have := HK3.out; have := HK4.out; omega⟩, ⟨by (with_reducible repeat (first | apply Kd.R_alloc | apply Kd.R_drewN | apply Kd.R_drew)); exact Kd.R_mono HO142.out (fun _ hk => hk.2)⟩, ⟨by (with_reducible repeat (first | apply Kd.R_alloc | apply Kd.R_drewN | apply Kd.R_drew)); exact Kd.R_mono HO_15.out (fun _ hk => hk.2)⟩, ⟨Sq.kb BK101⟩, ⟨Sq.kb BK102⟩, ⟨Sq.kl3 HB GE101 GE102 GE122⟩⟩
     rw [if_neg c46] at H
     have c46b0 : decide (x73_4 < (l0_0.length : Int)) = false := decide_eq_false c46
     clear c46
     by_cases c76 : x9_4.length + t117.size < 140737488355328
     rotate_left
     ·
      rw [if_neg c76] at H
      exact absurd H (by simp)
     rw [if_pos c76] at H
     have LMc76 := Aside0.mk c76
     clear c76
     obtain ⟨y143, hy143⟩ : ∃ y_ : List Int, y_ = (x9_4 ++ bytesOf t117) := ⟨_, rfl⟩
     replace H : (block_Encode.l3 k4 a1 a2 y143 t117 l0_2 (l0_2.length : Int) 0 l0_0 l0_1 l0_2 l0_3 l0_4) = some (r1, r2, r3, r4, r5, r6, r7, r8, r9) := by first | (rw [hy143]; with_reducible exact H) | (have H2_ := (Option.bind_some _ _).symm.trans H; rw [hy143]; with_reducible exact H2_) | (have H2_ := (Option.bind_some _ _).symm.trans H; with_reducible exact H2_) | with_reducible exact H | (rw [hy143]; exact H) | exact H
     have Ny143 := Aside0.mk hy143
     clear hy143
     have H' := Aside0.mk H
     clear H
     go_wp2_with (first | (at_builtin; refine print_append_str (w0 := w) w.heap.size rfl (.tmp 95) _ 33 9 5 rfl Try.underlying33 Try.underlying9 info5 u9 x9_4 t117 rfl rfl ?aO ?aB ?aS ?aL ?_; (case aB => exact (Sq.kl2 HB GE101 GE102)); (case aO => exact (Kd.own_of_R (kr HO_9))); (case aS => exact (below_size (Sq.kl2 HB GE101 GE102))); (case aL => have := LMc76.out; omega); intro v144 w77 ho0 hb hg; have ho := Kd.R_of_own (h1 := fun _ => rfl) (ok := fun _ => True) ho0 (fun _ _ => trivial); clear ho0; have hat := True.intro; rw [← Ny143.out] at ho; change Kd.R (Kd.int .u8) 5 w77 w.heap.size (fun _ => True) v144 y143 at ho; replace HO_15 := Aside0.mk True.intro; replace BK101 := Aside0.mk (blk_grown (g := gb101) (o := .cells #[.slice A0_0 l0_0.length c0_0, .slice A0_1 l0_1.length c0_1, .slice A0_2 l0_2.length c0_2, .slice A0_3 l0_3.length c0_3, .slice A0_4 l0_4.length c0_4] 27 (0, 0)) (kb BK101) hg (Kd.R_ne HO_9.out BK101.out (by decide))); replace BK102 := Aside0.mk (blk_grown (g := gb102) (o := .cells #[.int .i64 0, .int .i64 0, .int .i64 0, .int .i64 0, .int .i64 0, .int .i64 0, .int .i64 0] 35 (0, 0)) (kb BK102) hg (Kd.R_ne HO_9.out BK102.out (by decide))); replace HB := Aside0.mk (hb); have HO145 := Aside0.mk (ho); clear HO_9; clear ho hb hg hat; have hnb78 := NB101_102.out; have hnc78 := NB102_101.out; obtain ⟨hcz79_0, hcz79_1, hcz79_2, hcz79_3, hcz79_4⟩ := Sq.c5 BK101; obtain ⟨hfz79_0, hfz79_1, hfz79_2, hfz79_3, hfz79_4⟩ := Sq.z5 BK101))
     go_loopg [9, 101] k4 (fun kq v9 v101 w' => ∃ (x9_5 : List Int) (x101_5 : Int), v101 = .int .i64 x101_5 ∧ Aside0 (block_Encode.l3 kq a1 a2 x9_5 t117 l0_2 (l0_2.length : Int) x101_5 l0_0 l0_1 l0_2 l0_3 l0_4 = some (r1, r2, r3, r4, r5, r6, r7, r8, r9)) ∧ Aside0 (kq ≤ k4) ∧ Aside0 (Kd.R (Kd.int .u8) 5 w' w.heap.size (fun _ => True) v9 x9_5) ∧ Aside0 (w'.heap[gb101]? = some (.cells #[(.slice A0_0 l0_0.length c0_0), (.slice A0_1 l0_1.length c0_1), (.slice A0_2 l0_2.length c0_2), (.slice A0_3 l0_3.length c0_3), (.slice A0_4 l0_4.length c0_4)] 27 (0, 0))) ∧ Aside0 (w'.heap[gb102]? = some (.cells #[.int .i64 0, .int .i64 0, .int .i64 0, .int .i64 0, .int .i64 0, .int .i64 0, .int .i64 0] 35 (0, 0))) ∧ Aside0 (Below w.heap.size w w'))
     case atStart => exact ⟨(y143), (0), (by first | rfl | (simp; done) | (simp [*]; done)), H', ⟨Nat.le_refl _⟩, ⟨by (with_reducible repeat (first | apply Kd.R_alloc | apply Kd.R_drewN | apply Kd.R_drew)); exact Kd.R_mono HO145.out (fun _ hk => trivial)⟩, ⟨Sq.kb BK101⟩, ⟨Sq.kb BK102⟩, ⟨Sq.kl2 HB GE101 GE102⟩⟩
     clear H'
     try clear c1
     try clear p1
     try clear q1
     try clear hx1
     try clear c2
     try clear p2
     try clear c4
     try clear c5
     try clear c6
     try clear p6
     try clear q6
     try clear c7
     try clear p12
     try clear q12
     try clear hx12
     try clear c26
     try clear c28
     try clear c29
     try clear c46
     try clear c46b0
     try clear c47
     try clear c47b0
     try clear c48
     try clear c48b0
     try clear c51
     try clear c51b0
     try clear c52
     try clear c52b0
     try clear c52b1
     try clear c53
     try clear c53b0
     try clear c53b1
     try clear c56
     try clear c57
     try clear c61
     try clear q61
     try clear p64
     try clear c76
     try clear c78
     try clear hcz58_0
     try clear hcz58_1
     try clear hcz58_2
     try clear hcz79_0
     try clear hcz79_1
     try clear hcz79_2
     try clear hcz79_3
     try clear hcz79_4
     try clear hfz58_0
     try clear hfz58_1
     try clear hfz58_2
     try clear hfz79_0
     try clear hfz79_1
     try clear hfz79_2
     try clear hfz79_3
     try clear hfz79_4
     try clear hx121_0
     try clear hx121_1
     try clear hx121_2
     try clear p121
     try clear q061
     try clear q121
     try clear q61
     obtain ⟨x9_5, x101_5, rfl, HA, HK5, HO_9, BK101, BK102, HB⟩ := hrel
     cases gk with
     | zero => exact absurd HA.out (by simp [block_Encode.l3])
     | succ k5 =>
      have H := HA.out
      clear HA
      simp only [block_Encode.l3] at H
      by_cases c80 : x101_5 < (l0_2.length : Int)
      ·
       rw [if_pos c80] at H
       have c80b0 : decide (x101_5 < (l0_2.length : Int)) = true := decide_eq_true c80
       clear c80
       by_cases c81 : 0 ≤ x101_5
       rotate_left
       ·
        rw [if_neg c81] at H
        exact absurd H (by simp)
       rw [if_pos c81] at H
       have c81b0 : decide (0 ≤ x101_5) = true := decide_eq_true c81
       clear c81
       by_cases c82 : x101_5 < (l0_2.length : Int)
       rotate_left
       ·
        rw [if_neg c82] at H
        exact absurd H (by simp)
       rw [if_pos c82] at H
       have c82b0 : decide (x101_5 < (l0_2.length : Int)) = true := decide_eq_true c82
       clear c82
       replace H := Option.bind_eq_some_iff.mp H
       obtain ⟨t148, A830, H⟩ := H
       replace H : ((octets_Put.f t148 4 (IntKind.u64.wrap ((rd_T67 l0_2 x101_5).f1))).bind fun t151 => (if x9_5.length + t151.length < 140737488355328 then (block_Encode.l3 k5 a1 a2 (x9_5 ++ t151) t117 l0_2 (l0_2.length : Int) (wrap64 (x101_5 + 1)) l0_0 l0_1 l0_2 l0_3 l0_4) else (none))) = some (r1, r2, r3, r4, r5, r6, r7, r8, r9) := H
       have A83 := Aside0.mk A830
       clear A830
       replace H := Option.bind_eq_some_iff.mp H
       obtain ⟨t151, A840, H⟩ := H
       replace H : (if x9_5.length + t151.length < 140737488355328 then (block_Encode.l3 k5 a1 a2 (x9_5 ++ t151) t117 l0_2 (l0_2.length : Int) (wrap64 (x101_5 + 1)) l0_0 l0_1 l0_2 l0_3 l0_4) else (none)) = some (r1, r2, r3, r4, r5, r6, r7, r8, r9) := H
       have A84 := Aside0.mk A840
       clear A840
       by_cases c85 : x9_5.length + t151.length < 140737488355328
       rotate_left
       ·
        rw [if_neg c85] at H
        exact absurd H (by simp)
       rw [if_pos c85] at H
       have LMc85 := Aside0.mk c85
       clear c85
       obtain ⟨y154, hy154⟩ : ∃ y_ : List Int, y_ = (x9_5 ++ t151) := ⟨_, rfl⟩
       replace H : (block_Encode.l3 k5 a1 a2 y154 t117 l0_2 (l0_2.length : Int) (wrap64 (x101_5 + 1)) l0_0 l0_1 l0_2 l0_3 l0_4) = some (r1, r2, r3, r4, r5, r6, r7, r8, r9) := by first | (rw [hy154]; with_reducible exact H) | (have H2_ := (Option.bind_some _ _).symm.trans H; rw [hy154]; with_reducible exact H2_) | (have H2_ := (Option.bind_some _ _).symm.trans H; with_reducible exact H2_) | with_reducible exact H | (rw [hy154]; exact H) | exact H
       have Ny154 := Aside0.mk hy154
       clear hy154
       have H' := Aside0.mk H
       clear H
       have p146 : 0 ≤ (x101_5 : Int) := of_decide_eq_true (by first | (with_reducible assumption) | assumption)
       have q146 : x101_5 < (l0_2.length : Int) := of_decide_eq_true (by first | (with_reducible assumption) | assumption)
       obtain ⟨ad146, e146, hx146_0, hx146_1⟩ := at_T67 HR0_2.out x101_5 p146 q146
       cases e146
       replace hx146_0 := (HB.out.cell (World.block_lt_of_cell? w _ hx146_0)).trans hx146_0
       replace hx146_1 := (HB.out.cell (World.block_lt_of_cell? w _ hx146_1)).trans hx146_1
       replace p146 := eq_true p146
       replace q146 := eq_true q146
       try go_wp2_with (first | ((with_reducible refine gate_dst (N := 19) rfl ?_); refine box_event ?hg (N := 19) ?hd (cs := #[.int .i64 0, .int .i64 0]) (t := 67) ?hr ?_; (case hd => rfl); (case hg => rfl); (case hr => first | (go_simp; done) | (go_simp; rfl)); intro gb147 hg w86 hbox hb; replace HO_9 := krb HO_9 hb; have BK147 := Aside0.mk (hbox); have GW147 := Aside0.mk ((by rw [hg]; exact (below_size (Sq.kl2 HB GE101 GE102)) : w.heap.size ≤ gb147)); have GE147 := Aside0.mk ((by rw [hg]; exact (below_size (Sq.kl2 HB GE101 GE102)) : w.heap.size ≤ gb147)); replace HB := Aside0.mk (below_step (Sq.kl2 HB GE101 GE102) hb); have NB101_147 := Aside0.mk ((by rw [hg]; exact Nat.ne_of_lt (blk_lt (kb BK101)) : gb101 ≠ gb147)); have NB147_101 := Aside0.mk ((by rw [hg]; exact Nat.ne_of_gt (blk_lt (kb BK101)) : gb147 ≠ gb101)); replace BK101 := kbb BK101 hb; have NB102_147 := Aside0.mk ((by rw [hg]; exact Nat.ne_of_lt (blk_lt (kb BK102)) : gb102 ≠ gb147)); have NB147_102 := Aside0.mk ((by rw [hg]; exact Nat.ne_of_gt (blk_lt (kb BK102)) : gb147 ≠ gb102)); replace BK102 := kbb BK102 hb; clear hb hbox hg; have hnb87 := NB147_101.out; have hnc87 := NB101_147.out; have hnb88 := NB147_102.out; have hnc88 := NB102_147.out; obtain ⟨hcz89_0, hcz89_1⟩ := Sq.c2 BK147; obtain ⟨hfz89_0, hfz89_1⟩ := Sq.z2 BK147))
       obtain ⟨w90, hw_⟩ : ∃ x, x = ((w86.setCell ⟨gb147, 0, none⟩ (.int .i64 ((rd_T67 l0_2 x101_5).f0))).setCell ⟨gb147, 1, none⟩ (.int .i64 ((rd_T67 l0_2 x101_5).f1))) := ⟨_, rfl⟩
       replace HO_9 : Aside0 (Kd.R (Kd.int .u8) 5 w90 w.heap.size (fun _ => True) u9 x9_5) := ⟨by rw [hw_]; (with_reducible repeat (first | apply Kd.R_alloc | apply Kd.R_drewN | apply Kd.R_drew)); exact Kd.R_mono (Sq.rf2 HO_9 BK147) (fun _ hk => trivial)⟩
       replace BK101 : Aside0 (w90.heap[gb101]? = some (.cells #[.slice A0_0 l0_0.length c0_0, .slice A0_1 l0_1.length c0_1, .slice (some ad146) l0_2.length c0_2, .slice A0_3 l0_3.length c0_3, .slice A0_4 l0_4.length c0_4] 27 (0, 0))) := ⟨by rw [hw_]; (with_reducible repeat (first | refine blk_drewN ?_ _ | refine blk_drew ?_ | refine blk_alloc ?_ _)); refine blk_far ?_ NB101_147.out _; (with_reducible repeat (first | refine blk_drewN ?_ _ | refine blk_drew ?_ | refine blk_alloc ?_ _)); refine blk_far ?_ NB101_147.out _; exact Sq.kb BK101⟩
       replace BK102 : Aside0 (w90.heap[gb102]? = some (.cells #[.int .i64 0, .int .i64 0, .int .i64 0, .int .i64 0, .int .i64 0, .int .i64 0, .int .i64 0] 35 (0, 0))) := ⟨by rw [hw_]; (with_reducible repeat (first | refine blk_drewN ?_ _ | refine blk_drew ?_ | refine blk_alloc ?_ _)); refine blk_far ?_ NB102_147.out _; (with_reducible repeat (first | refine blk_drewN ?_ _ | refine blk_drew ?_ | refine blk_alloc ?_ _)); refine blk_far ?_ NB102_147.out _; exact Sq.kb BK102⟩
       replace BK147 : Aside0 (w90.heap[gb147]? = some (.cells #[.int .i64 ((rd_T67 l0_2 x101_5).f0), .int .i64 ((rd_T67 l0_2 x101_5).f1)] 67 (0, 0))) := ⟨by rw [hw_]; (with_reducible repeat (first | refine blk_drewN ?_ _ | refine blk_drew ?_ | refine blk_alloc ?_ _)); refine blk_put (cs := #[.int .i64 ((rd_T67 l0_2 x101_5).f0), .int .i64 0]) ?_ 1 _ rfl; (with_reducible repeat (first | refine blk_drewN ?_ _ | refine blk_drew ?_ | refine blk_alloc ?_ _)); refine blk_put (cs := #[.int .i64 0, .int .i64 0]) ?_ 0 _ rfl; exact Sq.kb BK147⟩
       replace HB : Aside0 (Below w.heap.size w w90) := ⟨by rw [hw_]; exact Sq.kl3 HB GE101 GE102 GE147⟩
       rw [← hw_]
       clear hw_
       replace HO_9 := Aside0.mk (Kd.R_drew HO_9.out)
       replace BK101 := Aside0.mk (blk_drew BK101.out)
       replace BK102 := Aside0.mk (blk_drew BK102.out)
       replace BK147 := Aside0.mk (blk_drew BK147.out)
       replace HB := Aside0.mk (below_drew1 HB.out)
       refine start_ (n := 12) (S := fun w' => w'.cell? ⟨gb147, 0, none⟩ = some (.int .i64 ((rd_T67 l0_2 x101_5).f0)) ∧ w'.cell? ⟨gb147, 1, none⟩ = some (.int .i64 ((rd_T67 l0_2 x101_5).f1))) (ds := []) (Sq.bm 12 0) (by kernel_rfl) rfl (by kernel_rfl) ⟨(blk_cell BK147.out 0).trans rfl, (blk_cell BK147.out 1).trans rfl⟩ (fun hHeld => ?_); refine with_tabW block_Encode.tab24 block_Encode.bits24 (fun HT_ HW_ => ?_)
       generalize w90.drew = w91 at HO_9 BK101 BK102 BK147 HB hHeld ⊢
       refine Sq.pv 0 105 1 HT_ ?_
       refine Sq.pv 1 106 3 HT_ ?_
       refine Sq.pv 2 107 7 HT_ ?_
       refine Sq.pv 6 111 71 HT_ ?_
       refine Sq.tv 3 108 79 HT_ HW_ hHeld ?_
       refine Sq.pv 4 109 95 HT_ ?_
       refine Sq.tv 7 112 223 HT_ HW_ hHeld ?_
       refine Sq.pv 8 113 479 HT_ ?_
       refine one_ (i := 5) (N := some 110) (bm 12 511) rfl rfl (one_of HT_.out (by kernel_rfl)) (by decide) (fun K hK => ?_)
       refine goes_ Try.func26 (by kernel_rfl) rfl #[.slice none 0 0, .int .i64 a1, .int .u64 (IntKind.u64.wrap ((rd_T67 l0_2 x101_5).f0))] (by rfl) rfl rfl (by (try simp only [List.map_toArray, List.map_cons, List.map_nil]); first | done | rfl | (simp only [List.length_drop, List.length_take]; rfl)) ?_
       refine (octets_Put.calls _ _ ([] : List Int) a1 (IntKind.u64.wrap ((rd_T67 l0_2 x101_5).f0)) t148 _ ?side1 ?side2 A83.out).mono ?_
       (case side1 => exact Kd.C_nil _ _)
       (case side2 => exact Nat.le_refl _)
       rintro e w92 ⟨v149, rfl, ho0, hb⟩
       refine ⟨_, rfl, ?_⟩
       have HO150 := Aside0.mk (Kd.R_lower (Kd.R_new' ho0 (Kd.R_lt (kr HO_9))) (below_size (Sq.kl3 HB GE101 GE102 GE147)))
       replace HO_9 := Aside0.mk (Kd.R_elder' (kr HO_9) (Kd.R_base ho0) hb)
       replace BK101 := kbb BK101 hb
       replace BK102 := kbb BK102 hb
       replace BK147 := kbb BK147 hb
       replace HB := Aside0.mk (below_step (Sq.kl3 HB GE101 GE102 GE147) hb)
       (try clear hb)
       (try clear hk)
       (try clear ho0)
       obtain ⟨Ao93, co93, eo93⟩ := Kd.R_slice HO150.out
       (first | subst eo93 | (injection eo93 with f1_ f2_ f3_; have f4_ := f1_.symm; have f5_ := f3_.symm; clear f1_ f2_ f3_; subst f4_; subst f5_))
       refine hK.out _ _ ⟨(blk_cell BK147.out 0).trans rfl, (blk_cell BK147.out 1).trans rfl⟩ (fun hHeld => ?_)
       clear hK K
       refine norm_ (a' := ?_) ?_ ?_
       rotate_left
       ·
        show Act.put _ (some 110) _ = _
        simp only [Act.put, List.setIfInBounds_toArray, List.set_cons_zero, List.set_cons_succ, i64_w, i32_w]
        rfl
       refine one_ (i := 9) (N := some 114) (bm 12 1023) rfl rfl (one_of HT_.out (by kernel_rfl)) (by decide) (fun K hK => ?_)
       refine goes_ Try.func26 (by kernel_rfl) rfl #[.slice Ao93 t148.length co93, .int .i64 4, .int .u64 (IntKind.u64.wrap ((rd_T67 l0_2 x101_5).f1))] (by rfl) rfl rfl (by (try simp only [List.map_toArray, List.map_cons, List.map_nil]); first | done | rfl | (simp only [List.length_drop, List.length_take]; rfl)) ?_
       with_reducible refine (octets_Put.calls _ _ t148 4 (IntKind.u64.wrap ((rd_T67 l0_2 x101_5).f1)) t151 _ ?side1 ?side2 A84.out).mono ?_
       (case side1 => exact Sq.qc HO150)
       (case side2 => exact Sq.ql HO150)
       rintro e w94 ⟨v152, rfl, ho0, hb⟩
       refine ⟨_, rfl, ?_⟩
       have HO153 := Aside0.mk (Kd.R_lower (Kd.R_new' (Kd.R_new' ho0 (Kd.R_lt (kr HO_9))) (Kd.R_lt (kr HO150))) (below_size (Sq.kl3 HB GE101 GE102 GE147)))
       replace HO_9 := Aside0.mk (Kd.R_elder' (kr HO_9) (Kd.R_base ho0) hb)
       replace HO150 := Aside0.mk (Kd.R_elder' (kr HO150) (Kd.R_base ho0) hb)
       replace BK101 := kbb BK101 hb
       replace BK102 := kbb BK102 hb
       replace BK147 := kbb BK147 hb
       replace HB := Aside0.mk (below_step (Sq.kl3 HB GE101 GE102 GE147) hb)
       (try clear hb)
       (try clear hk)
       (try clear ho0)
       obtain ⟨Ao96, co96, eo96⟩ := Kd.R_slice HO153.out
       (first | subst eo96 | (injection eo96 with f1_ f2_ f3_; have f4_ := f1_.symm; have f5_ := f3_.symm; clear f1_ f2_ f3_; subst f4_; subst f5_))
       refine hK.out _ _ ⟨(blk_cell BK147.out 0).trans rfl, (blk_cell BK147.out 1).trans rfl⟩ (fun hHeld => ?_)
       clear hK K
       refine norm_ (a' := ?_) ?_ ?_
       rotate_left
       ·
        show Act.put _ (some 114) _ = _
        simp only [Act.put, List.setIfInBounds_toArray, List.set_cons_zero, List.set_cons_succ, i64_w, i32_w]
        rfl
       refine one_ (i := 10) (N := some 115) (bm 12 2047) rfl rfl (one_of HT_.out (by kernel_rfl)) (by decide) (fun K hK => ?_)
       refine Kd.R_append_rows_step (Kd.int .u8) (w0 := w) w.heap.size (by rfl) (.tmp 105) (.tmp 114) 33 5 (.int .u8 0) 1 rfl Try.underlying33 info5 rfl (by decide) (by omega) u9 x9_5 t151 _ _ _ (fun k_ => some k_ ≠ (.slice Ao93 t148.length co93 : Value).ownBlock ∧ some k_ ≠ (.slice Ao96 t151.length co96 : Value).ownBlock) (fun _ => False) rfl rfl ?aO ?aR (fun _ _ h => h) (fun _ h => h.elim) ?aF ?aB ?aS ?aL ?_
       (case aR => repeat (first | exact (Kd.R_reads' HO153.out).2.2 | (with_reducible refine Kd.C_alloc ?_ _) | (with_reducible refine Kd.C_drewN ?_ _) | (with_reducible refine Kd.C_drew ?_)))
       (case aB => exact (Sq.kl3 HB GE101 GE102 GE147))
       (case aF => exact (fun k_ hk => ⟨Kd.fresh' (Kd.R_lt (kr HO150)) k_ hk, Kd.fresh' (Kd.R_lt (kr HO153)) k_ hk⟩))
       (case aO => exact (by (with_reducible repeat (first | apply Kd.R_alloc | apply Kd.R_drewN | apply Kd.R_drew)); exact Kd.R_mono HO_9.out (fun _ hk => ⟨hk.1.2, hk.2⟩)))
       (case aS => exact (below_size (Sq.kl3 HB GE101 GE102 GE147)))
       (case aL => have := LMc85.out; omega)
       intro v155 w95 ho hb hg hat
       rw [← Ny154.out] at ho
       replace BK101 := Aside0.mk (blk_grown (g := gb101) (o := .cells #[.slice A0_0 l0_0.length c0_0, .slice A0_1 l0_1.length c0_1, .slice (some ad146) l0_2.length c0_2, .slice A0_3 l0_3.length c0_3, .slice A0_4 l0_4.length c0_4] 27 (0, 0)) (kb BK101) hg (Kd.R_ne HO_9.out BK101.out (by decide)))
       replace BK102 := Aside0.mk (blk_grown (g := gb102) (o := .cells #[.int .i64 0, .int .i64 0, .int .i64 0, .int .i64 0, .int .i64 0, .int .i64 0, .int .i64 0] 35 (0, 0)) (kb BK102) hg (Kd.R_ne HO_9.out BK102.out (by decide)))
       replace BK147 := Aside0.mk (blk_grown (g := gb147) (o := .cells #[.int .i64 ((rd_T67 l0_2 x101_5).f0), .int .i64 ((rd_T67 l0_2 x101_5).f1)] 67 (0, 0)) (kb BK147) hg (Kd.R_ne HO_9.out BK147.out (by decide)))
       replace HO150 := Aside0.mk (Kd.R_after (ok := (fun k_ => some k_ ≠ (.slice Ao96 t151.length co96 : Value).ownBlock)) (by (with_reducible repeat (first | apply Kd.R_alloc | apply Kd.R_drewN | apply Kd.R_drew)); exact Kd.R_mono HO150.out (fun _ hk => ⟨hk.2, hk.1.2⟩)) hg hat)
       replace HO153 := Aside0.mk (Kd.R_after (ok := (fun k_ => some k_ ≠ (.slice Ao93 t148.length co93 : Value).ownBlock)) (by (with_reducible repeat (first | apply Kd.R_alloc | apply Kd.R_drewN | apply Kd.R_drew)); exact Kd.R_mono HO153.out (fun _ hk => ⟨hk.2, hk.1.2⟩)) hg hat)
       replace HB := Aside0.mk (hb)
       have HO156 := Aside0.mk (ho)
       clear HO_9 ho hb hg hat
       refine hK.out _ _ ⟨(blk_cell BK147.out 0).trans rfl, (blk_cell BK147.out 1).trans rfl⟩ (fun hHeld => ?_)
       clear hK K
       refine norm_ (a' := ?_) ?_ ?_
       rotate_left
       ·
        show Act.put _ (some 115) _ = _
        simp only [Act.put, List.setIfInBounds_toArray, List.set_cons_zero, List.set_cons_succ, i64_w, i32_w]
        rfl
       refine Sq.pv 11 9 4095 HT_ ?_
       refine done_ (done_of HT_.out (by kernel_rfl)) ?_
       try go_wp2
       go_roundg k5
       case measure => have := HJ3.out; have := HK2.out; have := HK3.out; have := HK4.out; have := HK5.out; omega
       case rel => exact ⟨(y154), (wrap64 (x101_5 + 1)), (by first | rfl | (simp; done) | (simp [*]; done)), H', ⟨by have := HJ3.out; have := HK2.out; have := HK3.out; have := HK4.out; have := HK5.out; omega⟩, ⟨by (with_reducible repeat (first | apply Kd.R_alloc | apply Kd.R_drewN | apply Kd.R_drew)); exact Kd.R_mono HO156.out (fun _ hk => trivial)⟩, ⟨Sq.kb BK101⟩, ⟨Sq.kb BK102⟩, ⟨Sq.kl3 HB GE101 GE102 GE147⟩⟩
      rw [if_neg c80] at H
      have c80b0 : decide (x101_5 < (l0_2.length : Int)) = false := decide_eq_false c80
      clear c80
      replace H := Option.bind_eq_some_iff.mp H
      obtain ⟨t158, A970, H⟩ := H
      replace H : ((block_truths.f l0_4).bind fun t161 => ((slices_Concat_byte_byte.f (([x9_5, t158, t161] : List (List Int)))).bind fun t167 => (some (t167, a2, (l0_4.length : Int), (l0_3.length : Int), (l0_2.length : Int), (l0_1.length : Int), (l0_0.length : Int), (t117.size : Int), 0)))) = some (r1, r2, r3, r4, r5, r6, r7, r8, r9) := H
      have A97 := Aside0.mk A970
      clear A970
      replace H := Option.bind_eq_some_iff.mp H
      obtain ⟨t161, A980, H⟩ := H
      replace H : ((slices_Concat_byte_byte.f (([x9_5, t158, t161] : List (List Int)))).bind fun t167 => (some (t167, a2, (l0_4.length : Int), (l0_3.length : Int), (l0_2.length : Int), (l0_1.length : Int), (l0_0.length : Int), (t117.size : Int), 0))) = some (r1, r2, r3, r4, r5, r6, r7, r8, r9) := H
      have A98 := Aside0.mk A980
      clear A980
      obtain ⟨y164, hy164⟩ : ∃ y_ : List (List Int), y_ = (([x9_5, t158, t161] : List (List Int))) := ⟨_, rfl⟩
      replace H : ((slices_Concat_byte_byte.f y164).bind fun t167 => (some (t167, a2, (l0_4.length : Int), (l0_3.length : Int), (l0_2.length : Int), (l0_1.length : Int), (l0_0.length : Int), (t117.size : Int), 0))) = some (r1, r2, r3, r4, r5, r6, r7, r8, r9) := by first | (rw [hy164]; with_reducible exact H) | (have H2_ := (Option.bind_some _ _).symm.trans H; rw [hy164]; with_reducible exact H2_) | (have H2_ := (Option.bind_some _ _).symm.trans H; with_reducible exact H2_) | with_reducible exact H | (rw [hy164]; exact H) | exact H
      have Ny164 := Aside0.mk hy164
      clear hy164
      replace H := Option.bind_eq_some_iff.mp H
      obtain ⟨t167, A990, H⟩ := H
      replace H : (some (t167, a2, (l0_4.length : Int), (l0_3.length : Int), (l0_2.length : Int), (l0_1.length : Int), (l0_0.length : Int), (t117.size : Int), 0)) = some (r1, r2, r3, r4, r5, r6, r7, r8, r9) := H
      have A99 := Aside0.mk A990
      clear A990
      simp only [Option.some.injEq, Prod.mk.injEq] at H
      obtain ⟨rfl, rfl, rfl, rfl, rfl, rfl, rfl, rfl, rfl⟩ := H
      have hnb100 := NB101_102.out
      have hnc100 := NB102_101.out
      obtain ⟨hcz101_0, hcz101_1, hcz101_2, hcz101_3, hcz101_4⟩ := Sq.c5 BK101
      obtain ⟨hfz101_0, hfz101_1, hfz101_2, hfz101_3, hfz101_4⟩ := Sq.z5 BK101
      try go_wp2_with (first | ((with_reducible refine gate_dst (N := 20) rfl ?_); refine box_event ?hg (N := 20) ?hd (cs := #[.int .i64 0, .int .i64 0, .int .i64 0, .int .i64 0, .int .i64 0, .int .i64 0, .int .i64 0]) (t := 35) ?hr ?_; (case hd => rfl); (case hg => rfl); (case hr => first | (go_simp; done) | (go_simp; rfl)); intro gb157 hg w102 hbox hb; replace HO_9 := krb HO_9 hb; have BK157 := Aside0.mk (hbox); have GW157 := Aside0.mk ((by rw [hg]; exact (below_size (Sq.kl2 HB GE101 GE102)) : w.heap.size ≤ gb157)); have GE157 := Aside0.mk ((by rw [hg]; exact (below_size (Sq.kl2 HB GE101 GE102)) : w.heap.size ≤ gb157)); replace HB := Aside0.mk (below_step (Sq.kl2 HB GE101 GE102) hb); have NB101_157 := Aside0.mk ((by rw [hg]; exact Nat.ne_of_lt (blk_lt (kb BK101)) : gb101 ≠ gb157)); have NB157_101 := Aside0.mk ((by rw [hg]; exact Nat.ne_of_gt (blk_lt (kb BK101)) : gb157 ≠ gb101)); replace BK101 := kbb BK101 hb; have NB102_157 := Aside0.mk ((by rw [hg]; exact Nat.ne_of_lt (blk_lt (kb BK102)) : gb102 ≠ gb157)); have NB157_102 := Aside0.mk ((by rw [hg]; exact Nat.ne_of_gt (blk_lt (kb BK102)) : gb157 ≠ gb102)); replace BK102 := kbb BK102 hb; clear hb hbox hg; have hnb103 := NB157_101.out; have hnc103 := NB101_157.out; have hnb104 := NB157_102.out; have hnc104 := NB102_157.out; obtain ⟨hcz105_0, hcz105_1, hcz105_2, hcz105_3, hcz105_4, hcz105_5, hcz105_6⟩ := Sq.c7 BK157; obtain ⟨hfz105_0, hfz105_1, hfz105_2, hfz105_3, hfz105_4, hfz105_5, hfz105_6⟩ := Sq.z7 BK157))
      obtain ⟨w106, hw_⟩ : ∃ x, x = (((((((w102.setCell ⟨gb157, 0, none⟩ (.int .i64 a2)).setCell ⟨gb157, 1, none⟩ (.int .i64 (l0_4.length : Int))).setCell ⟨gb157, 2, none⟩ (.int .i64 (l0_3.length : Int))).setCell ⟨gb157, 3, none⟩ (.int .i64 (l0_2.length : Int))).setCell ⟨gb157, 4, none⟩ (.int .i64 (l0_1.length : Int))).setCell ⟨gb157, 5, none⟩ (.int .i64 (l0_0.length : Int))).setCell ⟨gb157, 6, none⟩ (.int .i64 (t117.size : Int))) := ⟨_, rfl⟩
      replace HO_9 : Aside0 (Kd.R (Kd.int .u8) 5 w106 w.heap.size (fun _ => True) u9 x9_5) := ⟨by rw [hw_]; (with_reducible repeat (first | apply Kd.R_alloc | apply Kd.R_drewN | apply Kd.R_drew)); exact Kd.R_mono (Sq.rf7 HO_9 BK157) (fun _ hk => trivial)⟩
      replace BK101 : Aside0 (w106.heap[gb101]? = some (.cells #[.slice A0_0 l0_0.length c0_0, .slice A0_1 l0_1.length c0_1, .slice A0_2 l0_2.length c0_2, .slice A0_3 l0_3.length c0_3, .slice A0_4 l0_4.length c0_4] 27 (0, 0))) := ⟨by rw [hw_]; (with_reducible repeat (first | refine blk_drewN ?_ _ | refine blk_drew ?_ | refine blk_alloc ?_ _)); refine blk_far ?_ NB101_157.out _; (with_reducible repeat (first | refine blk_drewN ?_ _ | refine blk_drew ?_ | refine blk_alloc ?_ _)); refine blk_far ?_ NB101_157.out _; (with_reducible repeat (first | refine blk_drewN ?_ _ | refine blk_drew ?_ | refine blk_alloc ?_ _)); refine blk_far ?_ NB101_157.out _; (with_reducible repeat (first | refine blk_drewN ?_ _ | refine blk_drew ?_ | refine blk_alloc ?_ _)); refine blk_far ?_ NB101_157.out _; (with_reducible repeat (first | refine blk_drewN ?_ _ | refine blk_drew ?_ | refine blk_alloc ?_ _)); refine blk_far ?_ NB101_157.out _; (with_reducible repeat (first | refine blk_drewN ?_ _ | refine blk_drew ?_ | refine blk_alloc ?_ _)); refine blk_far ?_ NB101_157.out _; (with_reducible repeat (first | refine blk_drewN ?_ _ | refine blk_drew ?_ | refine blk_alloc ?_ _)); refine blk_far ?_ NB101_157.out _; exact Sq.kb BK101⟩
      replace BK102 : Aside0 (w106.heap[gb102]? = some (.cells #[.int .i64 0, .int .i64 0, .int .i64 0, .int .i64 0, .int .i64 0, .int .i64 0, .int .i64 0] 35 (0, 0))) := ⟨by rw [hw_]; (with_reducible repeat (first | refine blk_drewN ?_ _ | refine blk_drew ?_ | refine blk_alloc ?_ _)); refine blk_far ?_ NB102_157.out _; (with_reducible repeat (first | refine blk_drewN ?_ _ | refine blk_drew ?_ | refine blk_alloc ?_ _)); refine blk_far ?_ NB102_157.out _; (with_reducible repeat (first | refine blk_drewN ?_ _ | refine blk_drew ?_ | refine blk_alloc ?_ _)); refine blk_far ?_ NB102_157.out _; (with_reducible repeat (first | refine blk_drewN ?_ _ | refine blk_drew ?_ | refine blk_alloc ?_ _)); refine blk_far ?_ NB102_157.out _; (with_reducible repeat (first | refine blk_drewN ?_ _ | refine blk_drew ?_ | refine blk_alloc ?_ _)); refine blk_far ?_ NB102_157.out _; (with_reducible repeat (first | refine blk_drewN ?_ _ | refine blk_drew ?_ | refine blk_alloc ?_ _)); refine blk_far ?_ NB102_157.out _; (with_reducible repeat (first | refine blk_drewN ?_ _ | refine blk_drew ?_ | refine blk_alloc ?_ _)); refine blk_far ?_ NB102_157.out _; exact Sq.kb BK102⟩
      replace BK157 : Aside0 (w106.heap[gb157]? = some (.cells #[.int .i64 a2, .int .i64 (l0_4.length : Int), .int .i64 (l0_3.length : Int), .int .i64 (l0_2.length : Int), .int .i64 (l0_1.length : Int), .int .i64 (l0_0.length : Int), .int .i64 (t117.size : Int)] 35 (0, 0))) := ⟨by rw [hw_]; (with_reducible repeat (first | refine blk_drewN ?_ _ | refine blk_drew ?_ | refine blk_alloc ?_ _)); refine blk_put (cs := #[.int .i64 a2, .int .i64 (l0_4.length : Int), .int .i64 (l0_3.length : Int), .int .i64 (l0_2.length : Int), .int .i64 (l0_1.length : Int), .int .i64 (l0_0.length : Int), .int .i64 0]) ?_ 6 _ rfl; (with_reducible repeat (first | refine blk_drewN ?_ _ | refine blk_drew ?_ | refine blk_alloc ?_ _)); refine blk_put (cs := #[.int .i64 a2, .int .i64 (l0_4.length : Int), .int .i64 (l0_3.length : Int), .int .i64 (l0_2.length : Int), .int .i64 (l0_1.length : Int), .int .i64 0, .int .i64 0]) ?_ 5 _ rfl; (with_reducible repeat (first | refine blk_drewN ?_ _ | refine blk_drew ?_ | refine blk_alloc ?_ _)); refine blk_put (cs := #[.int .i64 a2, .int .i64 (l0_4.length : Int), .int .i64 (l0_3.length : Int), .int .i64 (l0_2.length : Int), .int .i64 0, .int .i64 0, .int .i64 0]) ?_ 4 _ rfl; (with_reducible repeat (first | refine blk_drewN ?_ _ | refine blk_drew ?_ | refine blk_alloc ?_ _)); refine blk_put (cs := #[.int .i64 a2, .int .i64 (l0_4.length : Int), .int .i64 (l0_3.length : Int), .int .i64 0, .int .i64 0, .int .i64 0, .int .i64 0]) ?_ 3 _ rfl; (with_reducible repeat (first | refine blk_drewN ?_ _ | refine blk_drew ?_ | refine blk_alloc ?_ _)); refine blk_put (cs := #[.int .i64 a2, .int .i64 (l0_4.length : Int), .int .i64 0, .int .i64 0, .int .i64 0, .int .i64 0, .int .i64 0]) ?_ 2 _ rfl; (with_reducible repeat (first | refine blk_drewN ?_ _ | refine blk_drew ?_ | refine blk_alloc ?_ _)); refine blk_put (cs := #[.int .i64 a2, .int .i64 0, .int .i64 0, .int .i64 0, .int .i64 0, .int .i64 0, .int .i64 0]) ?_ 1 _ rfl; (with_reducible repeat (first | refine blk_drewN ?_ _ | refine blk_drew ?_ | refine blk_alloc ?_ _)); refine blk_put (cs := #[.int .i64 0, .int .i64 0, .int .i64 0, .int .i64 0, .int .i64 0, .int .i64 0, .int .i64 0]) ?_ 0 _ rfl; exact Sq.kb BK157⟩
      replace HB : Aside0 (Below w.heap.size w w106) := ⟨by rw [hw_]; exact Sq.kl3 HB GE101 GE102 GE157⟩
      rw [← hw_]
      clear hw_
      replace HO_9 := Aside0.mk (Kd.R_drew HO_9.out)
      replace BK101 := Aside0.mk (blk_drew BK101.out)
      replace BK102 := Aside0.mk (blk_drew BK102.out)
      replace BK157 := Aside0.mk (blk_drew BK157.out)
      replace HB := Aside0.mk (below_drew1 HB.out)
      refine start_ (n := 13) (S := fun w' => w'.cell? ⟨gb101, 0, none⟩ = some (.slice A0_0 l0_0.length c0_0) ∧ w'.cell? ⟨gb101, 1, none⟩ = some (.slice A0_1 l0_1.length c0_1) ∧ w'.cell? ⟨gb101, 2, none⟩ = some (.slice A0_2 l0_2.length c0_2) ∧ w'.cell? ⟨gb101, 3, none⟩ = some (.slice A0_3 l0_3.length c0_3) ∧ w'.cell? ⟨gb101, 4, none⟩ = some (.slice A0_4 l0_4.length c0_4) ∧ w'.cell? ⟨gb157, 0, none⟩ = some (.int .i64 a2) ∧ w'.cell? ⟨gb157, 1, none⟩ = some (.int .i64 (l0_4.length : Int)) ∧ w'.cell? ⟨gb157, 2, none⟩ = some (.int .i64 (l0_3.length : Int)) ∧ w'.cell? ⟨gb157, 3, none⟩ = some (.int .i64 (l0_2.length : Int)) ∧ w'.cell? ⟨gb157, 4, none⟩ = some (.int .i64 (l0_1.length : Int)) ∧ w'.cell? ⟨gb157, 5, none⟩ = some (.int .i64 (l0_0.length : Int)) ∧ w'.cell? ⟨gb157, 6, none⟩ = some (.int .i64 (t117.size : Int))) (ds := []) (Sq.bm 13 0) (by kernel_rfl) rfl (by kernel_rfl) ⟨(blk_cell BK101.out 0).trans rfl, (blk_cell BK101.out 1).trans rfl, (blk_cell BK101.out 2).trans rfl, (blk_cell BK101.out 3).trans rfl, (blk_cell BK101.out 4).trans rfl, (blk_cell BK157.out 0).trans rfl, (blk_cell BK157.out 1).trans rfl, (blk_cell BK157.out 2).trans rfl, (blk_cell BK157.out 3).trans rfl, (blk_cell BK157.out 4).trans rfl, (blk_cell BK157.out 5).trans rfl, (blk_cell BK157.out 6).trans rfl⟩ (fun hHeld => ?_); refine with_tabW block_Encode.tab27 block_Encode.bits27 (fun HT_ HW_ => ?_)
      generalize w106.drew = w107 at HO_9 BK101 BK102 BK157 HB hHeld ⊢
      refine Sq.pv 0 136 1 HT_ ?_
      refine Sq.pv 1 137 3 HT_ ?_
      refine Sq.pv 4 140 19 HT_ ?_
      refine Sq.tv 2 138 23 HT_ HW_ hHeld ?_
      refine Sq.tv 5 141 55 HT_ HW_ hHeld ?_
      refine Sq.tv 9 145 567 HT_ HW_ hHeld ?_
      refine one_ (i := 3) (N := some 139) (bm 13 575) rfl rfl (one_of HT_.out (by kernel_rfl)) (by decide) (fun K hK => ?_)
      refine goes_ Try.func29 (by kernel_rfl) rfl #[.slice A0_3 l0_3.length c0_3] (by rfl) rfl rfl (by (try simp only [List.map_toArray, List.map_cons, List.map_nil]); first | done | rfl | (simp only [List.length_drop, List.length_take]; rfl)) ?_
      with_reducible refine (block_truths.calls _ _ l0_3 t158 _ ?side1 ?side2 A97.out).mono ?_
      (case side1 => exact Sq.qd HR0_3 HB)
      (case side2 => exact HC0_3.out)
      rintro e w108 ⟨v159, rfl, ho0, hb⟩
      refine ⟨_, rfl, ?_⟩
      have HO160 := Aside0.mk (Kd.R_lower (Kd.R_new' ho0 (Kd.R_lt (kr HO_9))) (below_size (Sq.kl3 HB GE101 GE102 GE157)))
      replace HO_9 := Aside0.mk (Kd.R_elder' (kr HO_9) (Kd.R_base ho0) hb)
      replace BK101 := kbb BK101 hb
      replace BK102 := kbb BK102 hb
      replace BK157 := kbb BK157 hb
      replace HB := Aside0.mk (below_step (Sq.kl3 HB GE101 GE102 GE157) hb)
      (try clear hb)
      (try clear hk)
      (try clear ho0)
      refine hK.out _ _ ⟨(blk_cell BK101.out 0).trans rfl, (blk_cell BK101.out 1).trans rfl, (blk_cell BK101.out 2).trans rfl, (blk_cell BK101.out 3).trans rfl, (blk_cell BK101.out 4).trans rfl, (blk_cell BK157.out 0).trans rfl, (blk_cell BK157.out 1).trans rfl, (blk_cell BK157.out 2).trans rfl, (blk_cell BK157.out 3).trans rfl, (blk_cell BK157.out 4).trans rfl, (blk_cell BK157.out 5).trans rfl, (blk_cell BK157.out 6).trans rfl⟩ (fun hHeld => ?_)
      clear hK K
      refine norm_ (a' := ?_) ?_ ?_
      rotate_left
      ·
       show Act.put _ (some 139) _ = _
       simp only [Act.put, List.setIfInBounds_toArray, List.set_cons_zero, List.set_cons_succ, i64_w, i32_w]
       rfl
      refine one_ (i := 6) (N := some 142) (bm 13 639) rfl rfl (one_of HT_.out (by kernel_rfl)) (by decide) (fun K hK => ?_)
      refine goes_ Try.func29 (by kernel_rfl) rfl #[.slice A0_4 l0_4.length c0_4] (by rfl) rfl rfl (by (try simp only [List.map_toArray, List.map_cons, List.map_nil]); first | done | rfl | (simp only [List.length_drop, List.length_take]; rfl)) ?_
      with_reducible refine (block_truths.calls _ _ l0_4 t161 _ ?side1 ?side2 A98.out).mono ?_
      (case side1 => exact Sq.qd HR0_4 HB)
      (case side2 => exact HC0_4.out)
      rintro e w109 ⟨v162, rfl, ho0, hb⟩
      refine ⟨_, rfl, ?_⟩
      have HO163 := Aside0.mk (Kd.R_lower (Kd.R_new' (Kd.R_new' ho0 (Kd.R_lt (kr HO_9))) (Kd.R_lt (kr HO160))) (below_size (Sq.kl3 HB GE101 GE102 GE157)))
      replace HO_9 := Aside0.mk (Kd.R_elder' (kr HO_9) (Kd.R_base ho0) hb)
      replace HO160 := Aside0.mk (Kd.R_elder' (kr HO160) (Kd.R_base ho0) hb)
      replace BK101 := kbb BK101 hb
      replace BK102 := kbb BK102 hb
      replace BK157 := kbb BK157 hb
      replace HB := Aside0.mk (below_step (Sq.kl3 HB GE101 GE102 GE157) hb)
      (try clear hb)
      (try clear hk)
      (try clear ho0)
      obtain ⟨Ao110, co110, eo110⟩ := Kd.R_slice HO_9.out
      (first | subst eo110 | (injection eo110 with f1_ f2_ f3_; have f4_ := f1_.symm; have f5_ := f3_.symm; clear f1_ f2_ f3_; subst f4_; subst f5_))
      obtain ⟨Ao111, co111, eo111⟩ := Kd.R_slice HO160.out
      (first | subst eo111 | (injection eo111 with f1_ f2_ f3_; have f4_ := f1_.symm; have f5_ := f3_.symm; clear f1_ f2_ f3_; subst f4_; subst f5_))
      obtain ⟨Ao112, co112, eo112⟩ := Kd.R_slice HO163.out
      (first | subst eo112 | (injection eo112 with f1_ f2_ f3_; have f4_ := f1_.symm; have f5_ := f3_.symm; clear f1_ f2_ f3_; subst f4_; subst f5_))
      refine hK.out _ _ ⟨(blk_cell BK101.out 0).trans rfl, (blk_cell BK101.out 1).trans rfl, (blk_cell BK101.out 2).trans rfl, (blk_cell BK101.out 3).trans rfl, (blk_cell BK101.out 4).trans rfl, (blk_cell BK157.out 0).trans rfl, (blk_cell BK157.out 1).trans rfl, (blk_cell BK157.out 2).trans rfl, (blk_cell BK157.out 3).trans rfl, (blk_cell BK157.out 4).trans rfl, (blk_cell BK157.out 5).trans rfl, (blk_cell BK157.out 6).trans rfl⟩ (fun hHeld => ?_)
      clear hK K
      refine norm_ (a' := ?_) ?_ ?_
      rotate_left
      ·
       show Act.put _ (some 142) _ = _
       simp only [Act.put, List.setIfInBounds_toArray, List.set_cons_zero, List.set_cons_succ, i64_w, i32_w]
       rfl
      refine one_ (i := 7) (N := some 143) (bm 13 767) rfl rfl (one_of HT_.out (by kernel_rfl)) (by decide) (fun K hK => ?_)
      refine Kd.N_lit_step (Kd.slice 5 (Kd.int .u8)) _ 33 ?hg (N' := 143) ?hd (xs := ([x9_5, t158, t161] : List (List Int))) (inner := [.slice Ao110 x9_5.length co110, .slice Ao111 t158.length co111, .slice Ao112 t161.length co112]) (ok := (fun k_ => k_ ≠ gb101 ∧ k_ ≠ gb102 ∧ k_ ≠ gb157)) (okp := (fun k_ => k_ ≠ gb101 ∧ k_ ≠ gb102 ∧ k_ ≠ gb157)) ?hr ?hp (fun _ hk => hk) ((show ∀ k_, w109.heap.size ≤ k_ → (fun k_ => k_ ≠ gb101 ∧ k_ ≠ gb102 ∧ k_ ≠ gb157) k_ from fun k_ hk => ⟨Kd.freshB (g := gb101) (o := .cells #[.slice A0_0 l0_0.length c0_0, .slice A0_1 l0_1.length c0_1, .slice A0_2 l0_2.length c0_2, .slice A0_3 l0_3.length c0_3, .slice A0_4 l0_4.length c0_4] 27 (0, 0)) (kb BK101) k_ hk, Kd.freshB (g := gb102) (o := .cells #[.int .i64 0, .int .i64 0, .int .i64 0, .int .i64 0, .int .i64 0, .int .i64 0, .int .i64 0] 35 (0, 0)) (kb BK102) k_ hk, Kd.freshB (g := gb157) (o := .cells #[.int .i64 a2, .int .i64 (l0_4.length : Int), .int .i64 (l0_3.length : Int), .int .i64 (l0_2.length : Int), .int .i64 (l0_1.length : Int), .int .i64 (l0_0.length : Int), .int .i64 (t117.size : Int)] 35 (0, 0)) (kb BK157) k_ hk⟩) _ (Nat.le_refl _)) (Below.refl _ _) (Nat.le_refl _) (by simp) ?_; (case hd => rfl); (case hg => rfl); (case hr => first | (go_simp; done) | (go_simp; rfl)); (case hp => exact (Reps.one (show Kd.FK (Kd.slice 5 (Kd.int .u8)) _ _ x9_5 [.slice Ao110 x9_5.length co110] from (Kd.FK_slice_mk (Kd.R_reads' (Kd.R_mono (ok' := (fun k_ => k_ ≠ gb101 ∧ k_ ≠ gb102 ∧ k_ ≠ gb157)) (Kd.R_types (Kd.R_types (Kd.R_types (HO_9.out) BK101.out (by decide)) BK102.out (by decide)) BK157.out (by decide)) (fun k_ hk => ⟨hk.1.1.2, ⟨hk.1.2, hk.2⟩⟩))).2.1 (Kd.R_F (Kd.R_mono (ok' := (fun k_ => k_ ≠ gb101 ∧ k_ ≠ gb102 ∧ k_ ≠ gb157)) (Kd.R_types (Kd.R_types (Kd.R_types (HO_9.out) BK101.out (by decide)) BK102.out (by decide)) BK157.out (by decide)) (fun k_ hk => ⟨hk.1.1.2, ⟨hk.1.2, hk.2⟩⟩))))) (Reps.one (show Kd.FK (Kd.slice 5 (Kd.int .u8)) _ _ t158 [.slice Ao111 t158.length co111] from (Kd.FK_slice_mk (Kd.R_reads' (Kd.R_mono (ok' := (fun k_ => k_ ≠ gb101 ∧ k_ ≠ gb102 ∧ k_ ≠ gb157)) (Kd.R_types (Kd.R_types (Kd.R_types (HO160.out) BK101.out (by decide)) BK102.out (by decide)) BK157.out (by decide)) (fun k_ hk => ⟨hk.1.1.2, ⟨hk.1.2, hk.2⟩⟩))).2.1 (Kd.R_F (Kd.R_mono (ok' := (fun k_ => k_ ≠ gb101 ∧ k_ ≠ gb102 ∧ k_ ≠ gb157)) (Kd.R_types (Kd.R_types (Kd.R_types (HO160.out) BK101.out (by decide)) BK102.out (by decide)) BK157.out (by decide)) (fun k_ hk => ⟨hk.1.1.2, ⟨hk.1.2, hk.2⟩⟩))))) (Reps.one (show Kd.FK (Kd.slice 5 (Kd.int .u8)) _ _ t161 [.slice Ao112 t161.length co112] from (Kd.FK_slice_mk (Kd.R_reads' (Kd.R_mono (ok' := (fun k_ => k_ ≠ gb101 ∧ k_ ≠ gb102 ∧ k_ ≠ gb157)) (Kd.R_types (Kd.R_types (Kd.R_types (HO163.out) BK101.out (by decide)) BK102.out (by decide)) BK157.out (by decide)) (fun k_ hk => ⟨hk.1.1.2, ⟨hk.1.2, hk.2⟩⟩))).2.1 (Kd.R_F (Kd.R_mono (ok' := (fun k_ => k_ ≠ gb101 ∧ k_ ≠ gb102 ∧ k_ ≠ gb157)) (Kd.R_types (Kd.R_types (Kd.R_types (HO163.out) BK101.out (by decide)) BK102.out (by decide)) BK157.out (by decide)) (fun k_ hk => ⟨hk.1.1.2, ⟨hk.1.2, hk.2⟩⟩))))) (Reps.none _ _)))))
      intro v165 w113 ho114 hb hg_ hnew_
      clear hg_ hnew_
      (first | rw [← Ny164.out] at ho114 | (simp only [Int.reduceToNat] at ho114; rw [← Ny164.out] at ho114))
      have HO166 := Aside0.mk (Kd.N_lower ho114 (below_size (Sq.kl3 HB GE101 GE102 GE157)))
      replace BK101 := kbb BK101 hb
      replace BK102 := kbb BK102 hb
      replace BK157 := kbb BK157 hb
      replace HB := Aside0.mk (below_step (Sq.kl3 HB GE101 GE102 GE157) hb)
      clear HO160 HO163 HO_9 hb ho114
      obtain ⟨Ao115, co115, eo115⟩ := Kd.N_slice HO166.out
      (first | subst eo115 | (injection eo115 with f1_ f2_ f3_; have f4_ := f1_.symm; have f5_ := f3_.symm; clear f1_ f2_ f3_; subst f4_; subst f5_))
      refine hK.out _ _ ⟨(blk_cell BK101.out 0).trans rfl, (blk_cell BK101.out 1).trans rfl, (blk_cell BK101.out 2).trans rfl, (blk_cell BK101.out 3).trans rfl, (blk_cell BK101.out 4).trans rfl, (blk_cell BK157.out 0).trans rfl, (blk_cell BK157.out 1).trans rfl, (blk_cell BK157.out 2).trans rfl, (blk_cell BK157.out 3).trans rfl, (blk_cell BK157.out 4).trans rfl, (blk_cell BK157.out 5).trans rfl, (blk_cell BK157.out 6).trans rfl⟩ (fun hHeld => ?_)
      clear hK K
      refine norm_ (a' := ?_) ?_ ?_
      rotate_left
      ·
       show Act.put _ (some 143) _ = _
       simp only [Act.put, List.setIfInBounds_toArray, List.set_cons_zero, List.set_cons_succ, i64_w, i32_w]
       rfl
      refine one_ (i := 8) (N := some 144) (bm 13 1023) rfl rfl (one_of HT_.out (by kernel_rfl)) (by decide) (fun K hK => ?_)
      refine goes_ Try.func28 (by kernel_rfl) rfl #[.slice Ao115 y164.length co115] (by rfl) rfl rfl (by (try simp only [List.map_toArray, List.map_cons, List.map_nil]); first | done | rfl | (simp only [List.length_drop, List.length_take]; rfl)) ?_
      with_reducible refine (slices_Concat_byte_byte.calls _ _ y164 t167 _ ?side1 ?side2 A99.out).mono ?_
      (case side1 => repeat (first | exact (Kd.N_reads' HO166.out).2.2 | (with_reducible refine Kd.C_alloc ?_ _) | (with_reducible refine Kd.C_drewN ?_ _) | (with_reducible refine Kd.C_drew ?_)))
      (case side2 => exact (Kd.N_reads' HO166.out).2.1)
      rintro e w116 ⟨v168, rfl, ho0, hb⟩
      refine ⟨_, rfl, ?_⟩
      replace HO166 := Aside0.mk (Kd.N_elder' (by (with_reducible repeat (first | apply Kd.N_alloc | apply Kd.N_drewN | apply Kd.N_drew)); exact HO166.out) (Kd.R_base ho0) hb)
      have HO169 := Aside0.mk (Kd.R_lower ho0 (below_size (Sq.kl3 HB GE101 GE102 GE157)))
      replace BK101 := kbb BK101 hb
      replace BK102 := kbb BK102 hb
      replace BK157 := kbb BK157 hb
      replace HB := Aside0.mk (below_step (Sq.kl3 HB GE101 GE102 GE157) hb)
      (try clear hb)
      (try clear hk)
      (try clear ho0)
      refine hK.out _ _ ⟨(blk_cell BK101.out 0).trans rfl, (blk_cell BK101.out 1).trans rfl, (blk_cell BK101.out 2).trans rfl, (blk_cell BK101.out 3).trans rfl, (blk_cell BK101.out 4).trans rfl, (blk_cell BK157.out 0).trans rfl, (blk_cell BK157.out 1).trans rfl, (blk_cell BK157.out 2).trans rfl, (blk_cell BK157.out 3).trans rfl, (blk_cell BK157.out 4).trans rfl, (blk_cell BK157.out 5).trans rfl, (blk_cell BK157.out 6).trans rfl⟩ (fun hHeld => ?_)
      clear hK K
      refine norm_ (a' := ?_) ?_ ?_
      rotate_left
      ·
       show Act.put _ (some 144) _ = _
       simp only [Act.put, List.setIfInBounds_toArray, List.set_cons_zero, List.set_cons_succ, i64_w, i32_w]
       rfl
      refine Sq.pv 10 6 2047 HT_ ?_
      refine one_ (i := 11) (N := none) (bm 13 4095) rfl rfl (one_of HT_.out (by kernel_rfl)) (by decide) (fun K hK => ?_)
      have hs117 := kc BK102 0 rfl
      have hfs117 := blk_frozen BK102.out 0
      have hns117_0 := NB101_102.out
      have hns117_2 := NB157_102.out
      have hms117_0 := NB102_101.out
      have hms117_2 := NB102_157.out
      have hs118 := kc BK102 1 rfl
      have hfs118 := blk_frozen BK102.out 1
      have hns118_0 := NB101_102.out
      have hns118_2 := NB157_102.out
      have hms118_0 := NB102_101.out
      have hms118_2 := NB102_157.out
      have hs119 := kc BK102 2 rfl
      have hfs119 := blk_frozen BK102.out 2
      have hns119_0 := NB101_102.out
      have hns119_2 := NB157_102.out
      have hms119_0 := NB102_101.out
      have hms119_2 := NB102_157.out
      have hs120 := kc BK102 3 rfl
      have hfs120 := blk_frozen BK102.out 3
      have hns120_0 := NB101_102.out
      have hns120_2 := NB157_102.out
      have hms120_0 := NB102_101.out
      have hms120_2 := NB102_157.out
      have hs121 := kc BK102 4 rfl
      have hfs121 := blk_frozen BK102.out 4
      have hns121_0 := NB101_102.out
      have hns121_2 := NB157_102.out
      have hms121_0 := NB102_101.out
      have hms121_2 := NB102_157.out
      have hs122 := kc BK102 5 rfl
      have hfs122 := blk_frozen BK102.out 5
      have hns122_0 := NB101_102.out
      have hns122_2 := NB157_102.out
      have hms122_0 := NB102_101.out
      have hms122_2 := NB102_157.out
      have hs123 := kc BK102 6 rfl
      have hfs123 := blk_frozen BK102.out 6
      have hns123_0 := NB101_102.out
      have hns123_2 := NB157_102.out
      have hms123_0 := NB102_101.out
      have hms123_2 := NB102_157.out
      refine skip_ (w1 := ?_) (by rfl) rfl ?_ ?_
      rotate_left
      ·
       go_simp
       rfl
      refine hK.out _ _ ⟨(Sq.cf7 NB101_102 hHeld.1), (Sq.cf7 NB101_102 hHeld.2.1), (Sq.cf7 NB101_102 hHeld.2.2.1), (Sq.cf7 NB101_102 hHeld.2.2.2.1), (Sq.cf7 NB101_102 hHeld.2.2.2.2.1), (Sq.cf7 NB157_102 hHeld.2.2.2.2.2.1), (Sq.cf7 NB157_102 hHeld.2.2.2.2.2.2.1), (Sq.cf7 NB157_102 hHeld.2.2.2.2.2.2.2.1), (Sq.cf7 NB157_102 hHeld.2.2.2.2.2.2.2.2.1), (Sq.cf7 NB157_102 hHeld.2.2.2.2.2.2.2.2.2.1), (Sq.cf7 NB157_102 hHeld.2.2.2.2.2.2.2.2.2.2.1), (Sq.cf7 NB157_102 hHeld.2.2.2.2.2.2.2.2.2.2.2)⟩ (fun hHeld => ?_)
      clear hK K
      refine Sq.pv 12 8 8191 HT_ ?_
      refine done_ (done_of HT_.out (by kernel_rfl)) ?_
      try go_wp2
      refine bodyPost_ret (results_list (rs := [.tmp 6, .cell 7 35, .tmp 8]) rfl (by simp) (.tmp (.cell gb102 35 #[.int .i64 a2, .int .i64 (l0_4.length : Int), .int .i64 (l0_3.length : Int), .int .i64 (l0_2.length : Int), .int .i64 (l0_1.length : Int), .int .i64 (l0_0.length : Int), .int .i64 (t117.size : Int)] (0, 0) _ rfl (by (with_reducible repeat (first | refine blk_drewN ?_ _ | refine blk_drew ?_ | refine blk_alloc ?_ _)); refine blk_put (cs := #[.int .i64 a2, .int .i64 (l0_4.length : Int), .int .i64 (l0_3.length : Int), .int .i64 (l0_2.length : Int), .int .i64 (l0_1.length : Int), .int .i64 (l0_0.length : Int), .int .i64 0]) ?_ 6 _ rfl; (with_reducible repeat (first | refine blk_drewN ?_ _ | refine blk_drew ?_ | refine blk_alloc ?_ _)); refine blk_put (cs := #[.int .i64 a2, .int .i64 (l0_4.length : Int), .int .i64 (l0_3.length : Int), .int .i64 (l0_2.length : Int), .int .i64 (l0_1.length : Int), .int .i64 0, .int .i64 0]) ?_ 5 _ rfl; (with_reducible repeat (first | refine blk_drewN ?_ _ | refine blk_drew ?_ | refine blk_alloc ?_ _)); refine blk_put (cs := #[.int .i64 a2, .int .i64 (l0_4.length : Int), .int .i64 (l0_3.length : Int), .int .i64 (l0_2.length : Int), .int .i64 0, .int .i64 0, .int .i64 0]) ?_ 4 _ rfl; (with_reducible repeat (first | refine blk_drewN ?_ _ | refine blk_drew ?_ | refine blk_alloc ?_ _)); refine blk_put (cs := #[.int .i64 a2, .int .i64 (l0_4.length : Int), .int .i64 (l0_3.length : Int), .int .i64 0, .int .i64 0, .int .i64 0, .int .i64 0]) ?_ 3 _ rfl; (with_reducible repeat (first | refine blk_drewN ?_ _ | refine blk_drew ?_ | refine blk_alloc ?_ _)); refine blk_put (cs := #[.int .i64 a2, .int .i64 (l0_4.length : Int), .int .i64 0, .int .i64 0, .int .i64 0, .int .i64 0, .int .i64 0]) ?_ 2 _ rfl; (with_reducible repeat (first | refine blk_drewN ?_ _ | refine blk_drew ?_ | refine blk_alloc ?_ _)); refine blk_put (cs := #[.int .i64 a2, .int .i64 0, .int .i64 0, .int .i64 0, .int .i64 0, .int .i64 0, .int .i64 0]) ?_ 1 _ rfl; (with_reducible repeat (first | refine blk_drewN ?_ _ | refine blk_drew ?_ | refine blk_alloc ?_ _)); refine blk_put (cs := #[.int .i64 0, .int .i64 0, .int .i64 0, .int .i64 0, .int .i64 0, .int .i64 0, .int .i64 0]) ?_ 0 _ rfl; exact Sq.kb BK102) Try.underlying35 rfl (by kernel_rfl) (.tmp .nil)))) rfl ?_
      exact ⟨_, by first | rfl | (simp [errW_none, errW_some] <;> rfl) | (simp [*, errW_none, errW_some] <;> rfl), by (with_reducible repeat (first | apply Kd.R_alloc | apply Kd.R_drewN | apply Kd.R_drew)); exact Kd.R_mono (Sq.rf7 HO169 BK102) (fun _ hk => trivial), by repeat (first | (with_reducible first | exact HB.out | apply below_alloc | apply pw_below_drewN | apply below_drew1 | refine below_set ?_ GE101.out | refine below_set ?_ GE102.out | refine below_set ?_ GE157.out) | exact HB.out)⟩
end Go.Proofs.Ythobnoknbdljgaa.PE
end
section
namespace Go.Proofs.Ythobnoknbdljgaa.Hand
open Go.RowKit Go.Proofs.YthobnoknbdljgaaW.PrintWords Go.Proofs.YthobnoknbdljgaaW.PrintLast Go.Proofs.YthobnoknbdljgaaW.PrintMore PB0
set_option linter.unusedVariables false
set_option linter.unusedSimpArgs false
theorem elem33 : Try.prog.underlying 33 = some (.slice (Try.prog.elem 33)) := by
 have hel : Try.prog.elem 33 = 5 := by simp [Program.elem, Try.underlying33]
 rw [hel]; exact Try.underlying33
theorem size33 (W : World) : (sizeOf (Try.prog.elem 33)).run Try.prog W = .ok 1 W := by
 obtain ⟨i0, hi, hz0, hz1, hz2⟩ := info_parts info_u8
 have hel : Try.prog.elem 33 = 5 := by simp [Program.elem, Try.underlying33]
 rw [hel]
 simp [sizeOf, typeInfo, hi, hz1]
theorem add0 (A : Option Addr) (s : Nat) : (A.map fun x => x.add (0 * s)) = A := by
 cases A <;> simp [Addr.add]
theorem cut_h (A : Option Addr) (n c : Nat) (hi : Int) (h0 : 0 ≤ hi) (h2 : hi ≤ c) : ∀ W : World, (Instr.slice 33 (.slice A n c) none (some (.int .i64 hi)) none).run Try.prog W = .ok (.slice A hi.toNat c) W := by
 intro W
 rw [run_slice_h W 33 A n c elem33 .i64 hi h0 h2, size33]
 simp only [Result.andThen, sliced, add0, Nat.sub_zero, ite_self]
theorem cut_l (A : Option Addr) (n c : Nat) (lo : Int) (h0 : 0 ≤ lo) (h2 : lo ≤ n) : ∀ W : World, (Instr.slice 33 (.slice A n c) (some (.int .i64 lo)) none none).run Try.prog W = .ok (.slice (if c = lo.toNat then A else A.map (·.add (lo.toNat * 1))) (n - lo.toNat) (c - lo.toNat)) W := by
 intro W
 rw [run_slice_l W 33 A n c elem33 .i64 lo h0 h2, size33]
 simp only [Result.andThen, sliced]
def Rd (w0 : World) (gr : Nat) (bs : List Int) (ok : Bool) (wr : World) : Prop :=
 w0.heap.size ≤ gr ∧ Below w0.heap.size w0 wr ∧ ∃ A c, wr.heap[gr]? = some (.cells #[.slice A bs.length c, .bool ok] 81 (0, 0)) ∧ Kd.C (Kd.int .u8) w0 A bs.length bs ∧ bs.length ≤ c
theorem Rd.keep {w0 wr w' : World} {gr : Nat} {bs : List Int} {ok : Bool} (h : Rd w0 gr bs ok wr) (hb : Below w0.heap.size w0 w') (hk : w'.heap[gr]? = wr.heap[gr]?) : Rd w0 gr bs ok w' := by
 obtain ⟨h1, h2, A, c, h3, h4⟩ := h
 exact ⟨h1, hb, A, c, hk.trans h3, h4⟩
theorem kb_set (w : World) (g i : Nat) (v : Value) : KeepBut w (w.setCell ⟨g, i, none⟩ v) g none := by
 refine ⟨by rw [World.size_setCell]; exact Nat.le_refl _, fun k _ hk _ => heap_setO hk⟩
theorem kb_step {a b c : World} {g : Nat} (h : KeepBut a b g none) (k : KeepBut b c g none) : KeepBut a c g none :=
 ⟨Nat.le_trans h.1 k.1, fun i hi hg hn => (k.2 i (Nat.lt_of_lt_of_le hi h.1) hg hn).trans (h.2 i hi hg hn)⟩
theorem kb_refl (a : World) (g : Nat) : KeepBut a a g none := ⟨Nat.le_refl _, fun _ _ _ _ => rfl⟩
set_option maxHeartbeats 2000000 in
set_option maxRecDepth 100000 in
theorem take_c {w0 wr : World} {gr : Nat} {bs : List Int} {ok : Bool} (h : Rd w0 gr bs ok wr) (n : Nat) (hn : n ≤ bs.length) :
  Calls Try.prog 38 #[.pointer (some ⟨gr, 0, none⟩), .int .i64 (n : Int)] wr fun e w' => ∃ A c, e = .returned (.slice A n c) ∧ Kd.C (Kd.int .u8) w0 A n (bs.take n) ∧ n ≤ c ∧ Rd w0 gr (bs.drop n) ok w' ∧ KeepBut wr w' gr none := by
 obtain ⟨hg, hb, A, c, hblk, hC, hc⟩ := h
 have hc0 : wr.cell? ⟨gr, 0, none⟩ = some (.slice A bs.length c) := (blk_cell hblk 0).trans rfl
 have hf0 := blk_frozen hblk 0
 have ha := cut_h A bs.length c (n : Int) (by omega) (by omega)
 have hl := cut_l A bs.length c (n : Int) (by omega) (by omega)
 rw [Int.toNat_natCast] at ha hl
 obtain ⟨A2, hA2⟩ : ∃ A2, A2 = (if c = n then A else A.map (·.add (n * 1))) := ⟨_, rfl⟩
 have hD := Aside0.mk (Kd.C_drop hC hn hc)
 have hT := Aside0.mk (Kd.C_take hC hn)
 change Aside0 (Kd.C (Kd.int .u8) w0 (if c = n then A else A.map (·.add (n * 1))) _ _) at hD
 rw [← hA2] at hl hD
 rw [List.length_take, Nat.min_eq_left hn] at hT
 have HA := Aside0.mk (And.intro hg hb)
 have HBK := Aside0.mk hblk
 clear hC hg hb hA2 hblk
 go_enter Try.func38, Try.ntmps38
 go_wp2
 go_ret
 refine ⟨A, c, rfl, hT.out, by omega, ⟨HA.out.1, below_set HA.out.2 HA.out.1, A2, c - n, ?_, hD.out, by rw [List.length_drop]; omega⟩, kb_set _ _ _ _⟩
 rw [List.length_drop]
 exact blk_put HBK.out 0 _ rfl
def numU (m : Nat) (bs : List Int) : Int := Oct.sgn m (uval (bs.take m))
theorem int_u (bs : List Int) (m : Nat) (h1 : 1 ≤ m) (h2 : m ≤ 8) (hn : m ≤ bs.length) : PO.octets_Int.f (bs.take m) 0 m = some (numU m bs, true) := by
 unfold PO.octets_Int.f octets_Uint.f
 have hl : (bs.take m).length = m := by rw [List.length_take]; omega
 rw [if_pos (by rw [hl]; omega)]
 have e : (((bs.take m).take ((0 : Int).toNat + (m : Int).toNat)).drop (0 : Int).toNat) = bs.take m := by
  rw [show ((0 : Int).toNat + (m : Int).toNat) = m by omega, show (0 : Int).toNat = 0 from rfl, List.drop_zero, List.take_take, Nat.min_self]
 rw [e]
 simp only [Option.bind_some, if_true]
 rw [if_pos (by rw [w64 (n := 8 - (m : Int)) (by omega) (by omega), w64 (by omega) (by omega)]; omega)]
 rfl
set_option maxHeartbeats 2000000 in
set_option maxRecDepth 100000 in
theorem number_c {w0 wr : World} {gr : Nat} {bs : List Int} {ok : Bool} (h : Rd w0 gr bs ok wr) (n : Nat) (h1 : 1 ≤ n) (h2 : n ≤ 8) (hn : n ≤ bs.length) :
  Calls Try.prog 37 #[.pointer (some ⟨gr, 0, none⟩), .int .i64 (n : Int)] wr fun e w' => e = .returned (.int .i64 (numU n bs)) ∧ Rd w0 gr (bs.drop n) ok w' ∧ KeepBut wr w' gr none := by
 have HT := Aside0.mk (take_c h n hn)
 have HI := Aside0.mk (int_u bs n h1 h2 hn)
 have hl : (bs.take n).length = n := by rw [List.length_take]; omega
 have HL := Aside0.mk hl
 clear h hl
 go_enter Try.func37, Try.ntmps37
 go_wp2_with (first
  | (go_at_call 38; refine (HT.out).mono ?_; rintro e w1 ⟨A, c, rfl, hC, hc, hR, hK⟩; have HC := Aside0.mk (PO.octets_Int.calls A c (bs.take n) 0 (n : Int) (numU n bs) true w1 (by rw [HL.out]; exact Kd.C_below hC hR.2.1) (by rw [HL.out]; exact hc) HI.out); rw [HL.out] at HC; have HR := Aside0.mk hR; have HK := Aside0.mk hK; clear hC hc hR hK)
  | (go_at_call 53; refine (HC.out).mono ?_; rintro e w2 ⟨rfl, ⟨nd, rfl⟩⟩))
 all_goals
  go_ret
  exact ⟨rfl, HR.out.keep (below_step HR.out.2.1 (by repeat (first | exact Below.refl _ _ | apply pw_below_drewN))) rfl, HK.out⟩
theorem rd_cell {w w' : World} {A : Option Addr} {bs : List Int} (h : Kd.C (Kd.int .u8) w A 1 (bs.take 1)) (hb : Below w.heap.size w w') (hn : 1 ≤ bs.length) : ∃ ad, A = some ad ∧ w'.cell? ad = some (.int .u8 (rd bs 0)) := by
 obtain ⟨ad, e, hc⟩ := Kd.at_int h 0 (by omega) (by omega)
 refine ⟨ad, e, ?_⟩
 have h1 : rd (bs.take 1) 0 = rd bs 0 := by
  cases bs with
  | nil => simp at hn
  | cons x xs => rfl
 rw [h1] at hc
 have e0 : ad.add (0 : Int).toNat = ad := by simp [Addr.add]
 rw [e0] at hc
 exact (hb.cell (World.block_lt_of_cell? w _ hc)).trans hc
set_option maxHeartbeats 2000000 in
set_option maxRecDepth 100000 in
theorem truth_c {w0 wr : World} {gr : Nat} {bs : List Int} {ok : Bool} (h : Rd w0 gr bs ok wr) (hn : 1 ≤ bs.length) :
  Calls Try.prog 39 #[.pointer (some ⟨gr, 0, none⟩)] wr fun e w' => e = .returned (.bool (rd bs 0 == 1)) ∧ Rd w0 gr (bs.drop 1) (ok && decide (rd bs 0 < 2)) w' ∧ KeepBut wr w' gr none := by
 have HT := Aside0.mk (take_c h 1 hn)
 clear h
 have HN := Aside0.mk hn
 cases ok
 all_goals
  go_enter Try.func39, Try.ntmps39
  go_upto_region 2 with (go_at_call 38; refine (HT.out).mono ?_; rintro e w1 ⟨A, c, rfl, hC, hc, hR, hK⟩; obtain ⟨ad, rfl, hx0⟩ := rd_cell hC hR.2.1 HN.out; have HR := Aside0.mk hR; have HK := Aside0.mk hK; clear hC hc hR hK)
  obtain ⟨q1, q2, A2, c2, hblk, q3, q4⟩ := HR.out
  have hf1 := blk_frozen hblk 1
  have hc1 := (blk_cell hblk 1).trans rfl
  have HQ := Aside0.mk (And.intro q1 (And.intro q2 (And.intro q3 q4)))
  have HB := Aside0.mk hblk
  clear q1 q2 q3 q4 hblk HR hx0
  go_wp2
  go_ret
  obtain ⟨q1, q2, q3, q4⟩ := HQ.out
  exact ⟨rfl, ⟨q1, below_set q2 q1, A2, c2, blk_put HB.out 1 _ rfl, q3, q4⟩, kb_step HK.out (kb_set _ _ _ _)⟩
def allB (l : List Int) : Bool := l.all fun x => decide (x < 2)
def isOne (l : List Int) : List Bool := l.map fun x => x == 1
theorem takeN (bs : List Int) (k : Nat) (h : k < bs.length) : bs.take (k + 1) = bs.take k ++ [rd (bs.drop k) 0] := by
 rw [List.take_add_one, List.getElem?_eq_getElem h, List.drop_eq_getElem_cons h]
 rfl
set_option maxHeartbeats 2000000 in
set_option maxRecDepth 100000 in
theorem marks_c {w0 wb : World} {gr : Nat} {bs : List Int} {ok : Bool} (h : Rd w0 gr bs ok wb) (hgr : gr < wb.heap.size) (n : Nat) (hn : n ≤ bs.length) (hb : n ≤ 1000000) :
  Calls Try.prog 41 #[.pointer (some ⟨gr, 0, none⟩), .int .i64 (n : Int)] wb fun e w' => ∃ v, e = .returned v ∧ Kd.R Kd.bool 4 w' wb.heap.size (fun _ => True) v (isOne (bs.take n)) ∧ Rd w0 gr (bs.drop n) (ok && allB (bs.take n)) w' ∧ KeepBut wb w' gr none := by
 have HR := Aside0.mk h
 clear h
 go_enter Try.func41, Try.ntmps41
 go_wp2
 go_loopw [4, 6] (fun v i wQ => ∃ k : Nat, k ≤ n ∧ i = .int .i64 k ∧ Kd.R Kd.bool 4 wQ wb.heap.size (fun _ => True) v (isOne (bs.take k)) ∧ Rd w0 gr (bs.drop k) (ok && allB (bs.take k)) wQ ∧ KeepBut wb wQ gr none) (fun _ i _ => n - (intOf i).toNat)
 case atStart => exact ⟨0, Nat.zero_le _, rfl, Kd.R_nil _ _ _ _ _, by have := HR.out; simpa [allB] using this, kb_refl _ _⟩
 clear HR
 obtain ⟨k, hk, rfl, hO, hR, hK⟩ := hrel
 have HO := Aside0.mk hO
 have HR := Aside0.mk hR
 have HK := Aside0.mk hK
 clear hO hR hK
 by_cases hlt : k < n
 rotate_left
 ·
  have hkl : k = n := by omega
  subst hkl
  have cl : decide ((k : Int) < (k : Int)) = false := decide_eq_false (by omega)
  go_wp2
  go_ret
  exact ⟨_, rfl, Kd.R_mono HO.out (fun _ _ => trivial), HR.out, HK.out⟩
 have cl : decide ((k : Int) < (n : Int)) = true := decide_eq_true (by omega)
 have HT := Aside0.mk (truth_c HR.out (by rw [List.length_drop]; omega))
 clear HR
 go_wp2_with (first
  | (go_at_call 39; refine (HT.out).mono ?_; rintro e w1 ⟨rfl, hR1, hK1⟩; go_loud (have n0_ := Aside0.mk (Kd.R_keep (Kd.R_mono (Kd.R_bound HO.out) (ok' := fun k => wb.heap.size ≤ k) (fun _ hk => hk.2.1)) hK1 (fun j hj => by omega)); have n1_ := Aside0.mk (kb_step HK.out hK1); have HR := Aside0.mk hR1; clear HO HK hR1 hK1; have HO := n0_; have HK := n1_; clear n0_ n1_))
  | ((with_reducible refine gate_builtin (b := .append) (xs := #[.tmp 8, .tmp 11]) rfl ?_); at_builtin; refine Kd.R_append Kd.bool (w0 := w1) wb.heap.size rfl (.tmp 8) (.tmp 11) 25 4 (.bool false) 1 rfl Try.underlying25 PE.info4 rfl (by decide) (by omega) _ (isOne (bs.take k)) _ _ _ (fun _ => False) rfl rfl rfl (fun _ h => h.elim) (fun j hj => Nat.le_trans HK.out.1 hj) HO.out (Below.refl _ _) HK.out.1 (by unfold isOne; rw [List.length_map, List.length_take]; omega) ?_; intro v2 w2 ho hb hg hat; clear hg hat))
 go_roundw
 case rel =>
  have e := takeN bs k (by omega)
  have q := HR.out.1
  refine ⟨k + 1, by omega, by go_num, ?_, ?_, ⟨Nat.le_trans HK.out.1 hb.size, fun i hi hg hn => (hb.block i hi).trans (HK.out.2 i hi hg hn)⟩⟩
  ·
   rw [show isOne (bs.take (k + 1)) = isOne (bs.take k) ++ [rd (bs.drop k) 0 == 1] by rw [e]; simp [isOne]]
   exact Kd.R_mono ho (fun _ _ => trivial)
  have h := HR.out.keep (HR.out.2.1.trans ⟨hb.os, hb.tape, hb.output, hb.size, fun k hk => hb.block k (by omega)⟩) (hb.block gr hgr)
  rw [List.drop_drop, Bool.and_assoc] at h
  rw [show allB (bs.take (k + 1)) = (allB (bs.take k) && decide (rd (bs.drop k) 0 < 2)) by rw [e]; simp [allB]]
  exact h
 case measure => simp [intOf]; omega
end Go.Proofs.Ythobnoknbdljgaa.Hand
end
section
namespace Go.Proofs.Ythobnoknbdljgaa
open Go.RowKit Hand PB0 Go.Proofs.YthobnoknbdljgaaW.PrintWords
def rightP (v ut sd le ti ty ch : Int) : Prop := (1 ≤ v ∧ v ≤ 4) ∧ (1 ≤ ty ∧ ty ≤ 256) ∧ (1 ≤ ch ∧ ch ≤ 256) ∧ (0 ≤ ti ∧ ti ≤ 5000) ∧ (0 ≤ le ∧ le ≤ 5000) ∧ (ut = 0 ∨ ut = ty) ∧ (sd = 0 ∨ sd = ty)
instance (v ut sd le ti ty ch : Int) : Decidable (rightP v ut sd le ti ty ch) := by unfold rightP; infer_instance
theorem within_f (n a b : Int) : PB0.header_within.f n a b = some (decide (a ≤ n ∧ n ≤ b)) := by
 unfold PB0.header_within.f
 split
 ·
  rename_i h
  have h' : a ≤ n := h
  congr 1
  simp [h']
 ·
  rw [show decide (a ≤ n ∧ n ≤ b) = false from decide_eq_false (by omega)]
theorem hright_f (v ut sd le ti ty ch : Int) : PB0.header_Right.f v ut sd le ti ty ch = some (decide (rightP v ut sd le ti ty ch)) := by
 unfold PB0.header_Right.f
 simp only [within_f, Option.bind_some, decide_eq_true_eq]
 by_cases h : rightP v ut sd le ti ty ch
 ·
  rw [decide_eq_true h]
  obtain ⟨h1, h2, h3, h4, h5, h6, h7⟩ := h
  rw [if_pos h1, if_pos h2, if_pos h3, if_pos h4, if_pos h5]
  rcases h6 with h6 | h6 <;> rcases h7 with h7 | h7 <;> simp [h6, h7]
 ·
  rw [decide_eq_false h]
  by_cases h1 : 1 ≤ v ∧ v ≤ 4
  ·
   rw [if_pos h1]
   by_cases h2 : 1 ≤ ty ∧ ty ≤ 256
   ·
    rw [if_pos h2]
    by_cases h3 : 1 ≤ ch ∧ ch ≤ 256
    ·
     rw [if_pos h3]
     by_cases h4 : 0 ≤ ti ∧ ti ≤ 5000
     ·
      rw [if_pos h4]
      by_cases h5 : 0 ≤ le ∧ le ≤ 5000
      ·
       rw [if_pos h5]
       have h8 : ¬ ((ut = 0 ∨ ut = ty) ∧ (sd = 0 ∨ sd = ty)) := fun h9 => h ⟨h1, h2, h3, h4, h5, h9.1, h9.2⟩
       by_cases a1 : ut = 0 <;> by_cases a2 : ut = ty <;> by_cases a3 : sd = 0 <;> by_cases a4 : sd = ty <;> simp_all
      ·
       rw [if_neg h5]
     ·
      rw [if_neg h4]
    ·
     rw [if_neg h3]
   ·
    rw [if_neg h2]
  ·
   rw [if_neg h1]
def bodyN (m : Nat) (ut sd le ti ty ch : Nat) : Nat := (m + 1) * ti + 6 * ty + ch + (m + 4) * le + sd + ut
theorem body_i4 (v ut sd le ti ty ch : Int) (h1 : 0 ≤ ti ∧ ti ≤ 5000) (h2 : 0 ≤ le ∧ le ≤ 5000) (h3 : 1 ≤ ty ∧ ty ≤ 256) (h4 : 1 ≤ ch ∧ ch ≤ 256) (h5 : 0 ≤ ut ∧ ut ≤ 256) (h6 : 0 ≤ sd ∧ sd ≤ 256) :
  PB0.header_Body.f v ut sd le ti ty ch 4 = some (5 * ti + 6 * ty + ch + 8 * le + sd + ut) := by
 unfold PB0.header_Body.f wrap64
 congr 1
 omega
theorem body_4 (v : Int) (ut sd le ti ty ch : Nat) (h : rightP v ut sd le ti ty ch) : PB0.header_Body.f v ut sd le ti ty ch 4 = some ((bodyN 4 ut sd le ti ty ch : Nat) : Int) := by
 obtain ⟨h1, h2, h3, h4, h5, h6, h7⟩ := h
 rw [body_i4 v ut sd le ti ty ch h4 h5 h2 h3 (by omega) (by omega)]
 unfold bodyN
 refine congrArg some ?_
 omega
theorem body_i8 (v ut sd le ti ty ch : Int) (h1 : 0 ≤ ti ∧ ti ≤ 5000) (h2 : 0 ≤ le ∧ le ≤ 5000) (h3 : 1 ≤ ty ∧ ty ≤ 256) (h4 : 1 ≤ ch ∧ ch ≤ 256) (h5 : 0 ≤ ut ∧ ut ≤ 256) (h6 : 0 ≤ sd ∧ sd ≤ 256) :
  PB0.header_Body.f v ut sd le ti ty ch 8 = some (9 * ti + 6 * ty + ch + 12 * le + sd + ut) := by
 unfold PB0.header_Body.f wrap64
 congr 1
 omega
theorem body_8 (v : Int) (ut sd le ti ty ch : Nat) (h : rightP v ut sd le ti ty ch) : PB0.header_Body.f v ut sd le ti ty ch 8 = some ((bodyN 8 ut sd le ti ty ch : Nat) : Int) := by
 obtain ⟨h1, h2, h3, h4, h5, h6, h7⟩ := h
 rw [body_i8 v ut sd le ti ty ch h4 h5 h2 h3 (by omega) (by omega)]
 unfold bodyN
 refine congrArg some ?_
 omega
def nameI (l0 : List Int) (a1 : Int) : ByteArray × Bool :=
 if a1 < 0 then (ByteArray.empty, false) else if a1 > l0.length then (ByteArray.empty, false) else
  if Lib.indexByte (Lib.bytesOf (l0.drop a1.toNat)) 0 < 0 then (ByteArray.empty, false) else (strOfNums ((l0.drop a1.toNat).take (Lib.indexByte (Lib.bytesOf (l0.drop a1.toNat)) 0).toNat), true)
theorem name_f (l0 : List Int) (a1 : Int) : octets_Name.f l0 a1 = some ((nameI l0 a1).1, (nameI l0 a1).2) := by
 unfold octets_Name.f nameI
 repeat' split
 all_goals rfl
def jump0 (m : Nat) (bs : List Int) (i : Nat) : S54 := ⟨numU m (bs.drop (m * i)), 0⟩
def jump1 (m ti : Nat) (bs : List Int) (i : Nat) : S54 := ⟨numU m (bs.drop (m * i)), wrap64 (rd (bs.drop (m * ti + i)) 0)⟩
def kind0 (o : Nat) (bs : List Int) (i : Nat) : S56 := ⟨numU 4 (bs.drop (o + 6 * i)), rd (bs.drop (o + 6 * i + 4)) 0 == 1, ⟨#[]⟩⟩
def kat (o : Nat) (bs : List Int) (i : Nat) : Int := wrap64 (rd (bs.drop (o + 6 * i + 5)) 0)
def ktrue (o : Nat) (bs : List Int) (i : Nat) : Bool := decide (rd (bs.drop (o + 6 * i + 4)) 0 < 2)
def kind1 (o : Nat) (ns bs : List Int) (i : Nat) : S56 := ⟨numU 4 (bs.drop (o + 6 * i)), rd (bs.drop (o + 6 * i + 4)) 0 == 1, (nameI ns (kat o bs i)).1⟩
def kname (o : Nat) (ns bs : List Int) (i : Nat) : Bool := (nameI ns (kat o bs i)).2
def leap1 (m o : Nat) (bs : List Int) (i : Nat) : S67 := ⟨numU m (bs.drop (o + (m + 4) * i)), numU 4 (bs.drop (o + (m + 4) * i + m))⟩
def o1 (m ti : Nat) : Nat := (m + 1) * ti
def o2 (m ti ty : Nat) : Nat := o1 m ti + 6 * ty
def o3 (m ti ty ch : Nat) : Nat := o2 m ti ty + ch
def o4 (m le ti ty ch : Nat) : Nat := o3 m ti ty ch + (m + 4) * le
def o5 (m sd le ti ty ch : Nat) : Nat := o4 m le ti ty ch + sd
def dNs (m ti ty ch : Nat) (bs : List Int) : List Int := (bs.drop (o2 m ti ty)).take ch
def dJ (m ti : Nat) (bs : List Int) : List S54 := (List.range ti).map (jump1 m ti bs)
def dK (m ti ty ch : Nat) (bs : List Int) : List S56 := (List.range ty).map (kind1 (o1 m ti) (dNs m ti ty ch bs) bs)
def dL (m le ti ty ch : Nat) (bs : List Int) : List S67 := (List.range le).map (leap1 m (o3 m ti ty ch) bs)
def dS (m sd le ti ty ch : Nat) (bs : List Int) : List Int := (bs.drop (o4 m le ti ty ch)).take sd
def dU (m ut sd le ti ty ch : Nat) (bs : List Int) : List Int := (bs.drop (o5 m sd le ti ty ch)).take ut
def dOK (m ut sd le ti ty ch : Nat) (bs : List Int) : Bool :=
 (((List.range ty).all (ktrue (o1 m ti) bs) && (List.range ty).all (kname (o1 m ti) (dNs m ti ty ch bs) bs)) && allB (dS m sd le ti ty ch bs)) && allB (dU m ut sd le ti ty ch bs)
def dRight (m : Nat) (v : Int) (ut sd le ti ty ch : Nat) (bs : List Int) : Bool :=
 rightB m v (dK m ti ty ch bs) (dJ m ti bs) (dL m le ti ty ch bs) (isOne (dS m sd le ti ty ch bs)) (isOne (dU m ut sd le ti ty ch bs))
def block_Decode.f (l0 : List Int) (v ut sd le ti ty ch : Int) (a2 : Int) : Option (List S56 × List S54 × List S67 × List Bool × List Bool × Int) :=
 if (a2 = 4 ∨ a2 = 8) ∧ rightP v ut sd le ti ty ch then
  (if l0.length < bodyN a2.toNat ut.toNat sd.toNat le.toNat ti.toNat ty.toNat ch.toNat then some ([], [], [], [], [], 5) else
   (if dOK a2.toNat ut.toNat sd.toNat le.toNat ti.toNat ty.toNat ch.toNat (l0.take (bodyN a2.toNat ut.toNat sd.toNat le.toNat ti.toNat ty.toNat ch.toNat)) = true ∧ dRight a2.toNat v ut.toNat sd.toNat le.toNat ti.toNat ty.toNat ch.toNat (l0.take (bodyN a2.toNat ut.toNat sd.toNat le.toNat ti.toNat ty.toNat ch.toNat)) = true then
    some (dK a2.toNat ti.toNat ty.toNat ch.toNat (l0.take (bodyN a2.toNat ut.toNat sd.toNat le.toNat ti.toNat ty.toNat ch.toNat)), dJ a2.toNat ti.toNat (l0.take (bodyN a2.toNat ut.toNat sd.toNat le.toNat ti.toNat ty.toNat ch.toNat)), dL a2.toNat le.toNat ti.toNat ty.toNat ch.toNat (l0.take (bodyN a2.toNat ut.toNat sd.toNat le.toNat ti.toNat ty.toNat ch.toNat)), isOne (dS a2.toNat sd.toNat le.toNat ti.toNat ty.toNat ch.toNat (l0.take (bodyN a2.toNat ut.toNat sd.toNat le.toNat ti.toNat ty.toNat ch.toNat))), isOne (dU a2.toNat ut.toNat sd.toNat le.toNat ti.toNat ty.toNat ch.toNat (l0.take (bodyN a2.toNat ut.toNat sd.toNat le.toNat ti.toNat ty.toNat ch.toNat))), 0)
   else some ([], [], [], [], [], 4)))
 else some ([], [], [], [], [], 1)
def jl (m ti : Nat) (bs : List Int) (k : Nat) : List S54 := (List.range ti).map fun i => if i < k then jump1 m ti bs i else jump0 m bs i
def kl (o ty : Nat) (ns bs : List Int) (k : Nat) : List S56 := (List.range ty).map fun i => if i < k then kind1 o ns bs i else kind0 o bs i
theorem jl_zero (m ti : Nat) (bs : List Int) : jl m ti bs 0 = (List.range ti).map (jump0 m bs) := by simp [jl]
theorem kl_zero (o ty : Nat) (ns bs : List Int) : kl o ty ns bs 0 = (List.range ty).map (kind0 o bs) := by simp [kl]
theorem jl_all (m ti : Nat) (bs : List Int) : jl m ti bs ti = dJ m ti bs := by
 unfold jl dJ
 apply List.map_congr_left
 intro i hi
 rw [if_pos (List.mem_range.1 hi)]
theorem kl_all (o ty : Nat) (ns bs : List Int) : kl o ty ns bs ty = (List.range ty).map (kind1 o ns bs) := by
 unfold kl
 apply List.map_congr_left
 intro i hi
 rw [if_pos (List.mem_range.1 hi)]
theorem jl_len (m ti : Nat) (bs : List Int) (k : Nat) : (jl m ti bs k).length = ti := by simp [jl]
theorem kl_len (o ty : Nat) (ns bs : List Int) (k : Nat) : (kl o ty ns bs k).length = ty := by simp [kl]
theorem jl_set (m ti : Nat) (bs : List Int) (k : Nat) (h : k < ti) : (jl m ti bs k).set k ⟨(rd_T54 (jl m ti bs k) (k : Int)).f0, wrap64 (rd (bs.drop (m * ti + k)) 0)⟩ = jl m ti bs (k + 1) := by
 rw [rd54 _ k (by rw [jl_len]; exact h)]
 apply List.ext_getElem
 ·
  rw [List.length_set, jl_len, jl_len]
 ·
  intro i h1 h2
  rw [jl_len] at h2
  by_cases e : k = i
  ·
   subst e
   rw [List.getElem_set_self]
   simp only [jl, List.getElem_map, List.getElem_range]
   rw [if_neg (Nat.lt_irrefl _), if_pos (Nat.lt_succ_self _)]
   rfl
  ·
   rw [List.getElem_set_ne e]
   simp only [jl, List.getElem_map, List.getElem_range]
   by_cases l : i < k
   ·
    rw [if_pos l, if_pos (by omega)]
   ·
    rw [if_neg l, if_neg (by omega)]
theorem kl_set (o ty : Nat) (ns bs : List Int) (k : Nat) (h : k < ty) : (kl o ty ns bs k).set k ⟨(rd_T56 (kl o ty ns bs k) (k : Int)).f0, (rd_T56 (kl o ty ns bs k) (k : Int)).f1, (nameI ns (kat o bs k)).1⟩ = kl o ty ns bs (k + 1) := by
 rw [rd56 _ k (by rw [kl_len]; exact h)]
 apply List.ext_getElem
 ·
  rw [List.length_set, kl_len, kl_len]
 ·
  intro i h1 h2
  rw [kl_len] at h2
  by_cases e : k = i
  ·
   subst e
   rw [List.getElem_set_self]
   simp only [kl, List.getElem_map, List.getElem_range]
   rw [if_neg (Nat.lt_irrefl _), if_pos (Nat.lt_succ_self _)]
   rfl
  ·
   rw [List.getElem_set_ne e]
   simp only [kl, List.getElem_map, List.getElem_range]
   by_cases l : i < k
   ·
    rw [if_pos l, if_pos (by omega)]
   ·
    rw [if_neg l, if_neg (by omega)]
theorem map_snoc {α : Type} (f : Nat → α) (k : Nat) : (List.range (k + 1)).map f = (List.range k).map f ++ [f k] := by
 rw [List.range_succ, List.map_append]
 rfl
theorem all_snoc (f : Nat → Bool) (k : Nat) : (List.range (k + 1)).all f = ((List.range k).all f && f k) := by
 rw [List.range_succ, List.all_append]
 simp
theorem rdm (f : Nat → Int) (n k : Nat) (h : k < n) : rd ((List.range n).map f) (k : Int) = f k := by
 unfold rd
 rw [Int.toNat_natCast, List.getD_eq_getElem?_getD, List.getElem?_eq_getElem (by simp; exact h)]
 simp
theorem nameI_size (ns : List Int) (a : Int) : (nameI ns a).1.size ≤ ns.length := by
 unfold nameI
 split
 ·
  exact Nat.zero_le _
 ·
  split
  ·
   exact Nat.zero_le _
  ·
   split
   ·
    exact Nat.zero_le _
   ·
    dsimp only
    unfold strOfNums
    simp only [ByteArray.size, Array.size, List.length_map, List.length_take, List.length_drop]
    omega
theorem nmSum_le (c : Nat) : ∀ l : List ByteArray, (∀ s ∈ l, s.size ≤ c) → nmSum l ≤ l.length * (c + 1) := by
 intro l
 induction l with
 | nil => intro _; simp [nmSum]
 | cons x l ih =>
  intro h
  have h1 := h x (List.mem_cons_self ..)
  have h2 := ih (fun s hs => h s (List.mem_cons_of_mem _ hs))
  rw [List.length_cons, Nat.succ_mul]
  simp only [nmSum, List.map_cons, List.sum_cons] at *
  omega
end Go.Proofs.Ythobnoknbdljgaa
namespace Go.Proofs.Ythobnoknbdljgaa.Hand
open Go.RowKit PB0 Go.Proofs.YthobnoknbdljgaaW.PrintWords
theorem rd_drew {w0 wr : World} {gr : Nat} {bs : List Int} {ok : Bool} (h : Rd w0 gr bs ok wr) : Rd w0 gr bs ok wr.drew := h.keep (below_drew1 h.2.1) rfl
theorem number_8 {w0 wr : World} {gr : Nat} {bs : List Int} {ok : Bool} (h : Rd w0 gr bs ok wr) (hn : 8 ≤ bs.length) :
  Calls Try.prog 37 #[.pointer (some ⟨gr, 0, none⟩), .int .i64 8] wr fun e w' => e = .returned (.int .i64 (numU 8 bs)) ∧ Rd w0 gr (bs.drop 8) ok w' ∧ KeepBut wr w' gr none := number_c h 8 (by omega) (by omega) hn
theorem number_4 {w0 wr : World} {gr : Nat} {bs : List Int} {ok : Bool} (h : Rd w0 gr bs ok wr) (hn : 4 ≤ bs.length) :
  Calls Try.prog 37 #[.pointer (some ⟨gr, 0, none⟩), .int .i64 4] wr fun e w' => e = .returned (.int .i64 (numU 4 bs)) ∧ Rd w0 gr (bs.drop 4) ok w' ∧ KeepBut wr w' gr none := number_c h 4 (by omega) (by omega) hn
theorem take_1 {w0 wr : World} {gr : Nat} {bs : List Int} {ok : Bool} (h : Rd w0 gr bs ok wr) (hn : 1 ≤ bs.length) :
  Calls Try.prog 38 #[.pointer (some ⟨gr, 0, none⟩), .int .i64 1] wr fun e w' => ∃ ad c, e = .returned (.slice (some ad) 1 c) ∧ w'.cell? ad = some (.int .u8 (rd bs 0)) ∧ Rd w0 gr (bs.drop 1) ok w' ∧ KeepBut wr w' gr none := by
 refine (take_c h 1 hn).mono ?_
 rintro e w1 ⟨A, c, rfl, hC, hc, hR, hK⟩
 obtain ⟨ad, rfl, hx0⟩ := rd_cell hC hR.2.1 hn
 exact ⟨ad, c, rfl, hx0, hR, hK⟩
theorem blk_kb {w w' : World} {g gr : Nat} {o : Obj} (h : w.heap[g]? = some o) (hk : KeepBut w w' gr none) (hne : g ≠ gr) : w'.heap[g]? = some o := (hk.2 g (blk_lt h) hne (by simp)).trans h
theorem R_kb {α : Type} {d : Kd α} {e : Nat} {w0 w w' : World} {base gr : Nat} {okk : Nat → Prop} {v : Value} {xs : List α} {bs : List Int} {ok : Bool} (h : d.R e w base okk v xs) (hR : Rd w0 gr bs ok w) (ht : ∀ q, q ∈ e :: d.E → q ≠ 81) (hk : KeepBut w w' gr none) : d.R e w' base okk v xs := by
 obtain ⟨h1, h2, A, c, h3, h4⟩ := hR
 exact Kd.R_mono (Kd.R_keep (Kd.R_types h h3 ht) hk (fun j hj => hj.2)) (fun _ hk => hk.1)
theorem R_setb {α : Type} {d : Kd α} {e : Nat} {w : World} {base g t : Nat} {cells : Array Value} {v : Value} {xs : List α} (h : d.R e w base (fun _ => True) v xs) (hb : w.heap[g]? = some (.cells cells t (0, 0))) (ht : ∀ q, q ∈ e :: d.E → q ≠ t) (i : Nat) (u : Value) : d.R e (w.setCell ⟨g, i, none⟩ u) base (fun _ => True) v xs :=
 Kd.R_mono (Kd.R_step (Kd.R_types h hb ht) (fun _ hk _ => heap_setO hk.2)) (fun _ _ => trivial)
theorem rd_set {w0 wr : World} {gr g : Nat} {bs : List Int} {ok : Bool} (h : Rd w0 gr bs ok wr) (hne : g ≠ gr) (hg : w0.heap.size ≤ g) (i : Nat) (u : Value) : Rd w0 gr bs ok (wr.setCell ⟨g, i, none⟩ u) :=
 h.keep (below_set h.2.1 hg) (heap_setO (Ne.symm hne))
theorem rd_grown {α : Type} {d : Kd α} {e base : Nat} {okk : Nat → Prop} {v : Value} {xs : List α} {w0 wr w' : World} {gr : Nat} {bs : List Int} {ok : Bool} (h : Rd w0 gr bs ok wr) (hO : d.R e wr base okk v xs) (hne : e ≠ 81) (hb : Below w0.heap.size wr w') (hg : wr.grownBy w' v.ownBlock) : Rd w0 gr bs ok w' := by
 obtain ⟨h1, h2, A, c, h3, h4⟩ := h
 exact ⟨h1, h2.trans hb, A, c, blk_grown h3 hg (Kd.R_ne hO h3 hne), h4⟩
theorem jump_put {e base g n cap : Nat} {W : World} {xs : List S54} (h : k54.R e W base (fun _ => True) (.slice (some ⟨g, 0, none⟩) n cap) xs) (i : Nat) (hi : i < n) (x : Int) :
  k54.R e (W.setCell ⟨g, i * 2 + 1, none⟩ (.int .i64 x)) base (fun _ => True) (.slice (some ⟨g, 0, none⟩) n cap) (xs.set i ⟨(rd_T54 xs (i : Int)).f0, x⟩) ∧ W.grownBy (W.setCell ⟨g, i * 2 + 1, none⟩ (.int .i64 x)) (some g) ∧ (∃ u, W.cell? ⟨g, i * 2 + 1, none⟩ = some (.int .i64 u)) ∧ W.frozen? ⟨g, i * 2 + 1, none⟩ = false := by
 obtain ⟨c, hcl, hM, hcc, hf⟩ := Kd.R_elem h z54 (i : Int) (by omega) (by omega)
 have hc := k54_openM hM
 rw [Int.toNat_natCast] at hcc hf
 have hs : k54.sz = 2 := rfl
 rw [hs] at hcc hf
 subst hc
 have hq := Kd.R_seg h (i : Int) (by omega) (by omega) (seg := [.int .i64 x]) (j := 1) (okp := fun k => k ≠ g) (x' := ⟨(rd_T54 xs (i : Int)).f0, x⟩) hcl (fun j u hu => by rw [Int.toNat_natCast, hs]; exact hcc j u hu) (by rw [hs]; exact Nat.le_refl _) (k54_mkM _ _ _ ⟨(rd_T54 xs (i : Int)).f0, x⟩) (fun k hk => ⟨trivial, hk⟩)
 rw [Int.toNat_natCast, hs] at hq
 exact ⟨hq.1, hq.2, ⟨_, hcc 1 _ rfl⟩, hf 1⟩
theorem kind_put {e base g n cap : Nat} {W : World} {xs : List S56} (h : k56.R e W base (fun _ => True) (.slice (some ⟨g, 0, none⟩) n cap) xs) (i : Nat) (hi : i < n) (x : ByteArray) :
  k56.R e (W.setCell ⟨g, i * 3 + 2, none⟩ (.string x)) base (fun _ => True) (.slice (some ⟨g, 0, none⟩) n cap) (xs.set i ⟨(rd_T56 xs (i : Int)).f0, (rd_T56 xs (i : Int)).f1, x⟩) ∧ W.grownBy (W.setCell ⟨g, i * 3 + 2, none⟩ (.string x)) (some g) ∧ (∃ u, W.cell? ⟨g, i * 3 + 2, none⟩ = some (.string u)) ∧ W.frozen? ⟨g, i * 3 + 2, none⟩ = false := by
 obtain ⟨c, hcl, hM, hcc, hf⟩ := Kd.R_elem h z56 (i : Int) (by omega) (by omega)
 have hc := k56_openM hM
 rw [Int.toNat_natCast] at hcc hf
 have hs : k56.sz = 3 := rfl
 rw [hs] at hcc hf
 subst hc
 have hq := Kd.R_seg h (i : Int) (by omega) (by omega) (seg := [.string x]) (j := 2) (okp := fun k => k ≠ g) (x' := ⟨(rd_T56 xs (i : Int)).f0, (rd_T56 xs (i : Int)).f1, x⟩) hcl (fun j u hu => by rw [Int.toNat_natCast, hs]; exact hcc j u hu) (by rw [hs]; exact Nat.le_refl _) (k56_mkM _ _ _ ⟨(rd_T56 xs (i : Int)).f0, (rd_T56 xs (i : Int)).f1, x⟩) (fun k hk => ⟨trivial, hk⟩)
 rw [Int.toNat_natCast, hs] at hq
 exact ⟨hq.1, hq.2, ⟨_, hcc 2 _ rfl⟩, hf 2⟩
theorem rd_grow {w0 wr w' : World} {gr g t : Nat} {bs : List Int} {ok : Bool} {cells : Array Value} (h : Rd w0 gr bs ok wr) (hg : wr.grownBy w' (some g)) (hb : wr.heap[g]? = some (.cells cells t (0, 0))) (ht : t ≠ 81) (hge : w0.heap.size ≤ g) : Rd w0 gr bs ok w' := by
 obtain ⟨h1, h2, A, c, h3, h4⟩ := h
 have hne : gr ≠ g := by
  intro e
  subst e
  rw [h3] at hb
  injection hb with hb
  injection hb with _ hb
  exact ht hb.symm
 refine ⟨h1, h2.trans ⟨hg.os, hg.tape, hg.output, hg.size, fun k hk => hg.block k (Nat.lt_of_lt_of_le hk h2.size) (by intro e; injection e; omega)⟩, A, c, blk_grown h3 hg (by intro e; injection e with e; exact hne e), h4⟩
theorem info_jump : (Try.prog.info? 54).map (fun i => (i.zero, i.size, i.bytes)) = some (some (.agg #[.int .i64 0, .int .i64 0]), 2, 16) := by kernel_rfl
theorem info_kind : (Try.prog.info? 56).map (fun i => (i.zero, i.size, i.bytes)) = some (some (.agg #[.int .i64 0, .bool false, .string ⟨#[]⟩]), 3, 32) := by kernel_rfl
theorem info_leap : (Try.prog.info? 67).map (fun i => (i.zero, i.size, i.bytes)) = some (some (.agg #[.int .i64 0, .int .i64 0]), 2, 16) := by kernel_rfl
theorem info_int : (Try.prog.info? 3).map (fun i => (i.zero, i.size, i.bytes)) = some (some (.int .i64 0), 1, 8) := by kernel_rfl
end Go.Proofs.Ythobnoknbdljgaa.Hand
end
section
namespace Go.Proofs.Ythobnoknbdljgaa.Hand
open Go
section
variable {P : Program} {ops : Array Oper} {Q : Exit → Act → World → Prop} {md : Region.Mode} {S : World → Prop} {z : Nat}
def wpZ (P : Program) (md : Region.Mode) (ops : Array Oper) (Q : Exit → Act → World → Prop) (S : World → Prop) (z : Nat) : Nat → Array Bool → Act → World → Prop
 | 0, ls, a, w => Region.ready md ops ls = [] ∧ Q .normal a w
 | n + 1, ls, a, w => (Region.ready md ops ls = [] → Q .normal a w) ∧ ∀ i ∈ Region.ready md ops ls, wpOp P ops Q i (fun a' w' => (i ≠ z → S w') ∧ wpZ P md ops Q S z n (ls.setIfInBounds i true) a' w') a w
theorem any_of_Z (n : Nat) : ∀ (ls : Array Bool) (a : Act) (w : World), wpZ P md ops Q S z n ls a w → wpAny P md ops Q n ls a w := by
 induction n with
 | zero => exact fun _ _ _ h => h
 | succ n ih => exact fun ls a w h => ⟨h.1, fun i hi => wpOp_mono (fun a' w' k => ih _ a' w' k.2) (h.2 i hi)⟩
def zwaits (md : Region.Mode) (ops : Array Oper) (z i : Nat) : Bool := match ops[z]? with
 | some o => o.after.any fun e => Region.binds md e && e.on == i
 | none => true
theorem not_ready {i : Nat} {ls : Array Bool} (hw : zwaits md ops z i = true) (hi : ls.getD i true = false) : z ∉ Region.ready md ops ls := by
 intro hz
 obtain ⟨_, o, ho, hall⟩ := mem_ready.1 hz
 unfold zwaits at hw
 rw [ho] at hw
 dsimp only at hw
 obtain ⟨j, hj, hb⟩ := Array.any_eq_true.1 hw
 rw [Bool.and_eq_true, beq_iff_eq] at hb
 have h := hall _ (Array.getElem_mem hj) hb.1
 rw [hb.2] at h
 rcases Nat.lt_or_ge i ls.size with h' | h'
 ·
  simp [h'] at hi h
  rw [hi] at h
  cases h
 ·
  simp [Array.getElem?_eq_none h'] at h
theorem wpZ_first {i : Nat} {oi : Oper} {v : Value} (hi : ops[i]? = some oi) (hs : Region.noSelect ops = true) (hw : zwaits md ops z i = true) (hQ : ∀ c a w, Q (.panic c) (a.put oi.dst v) w → Q (.panic c) a w) (n : Nat) :
  ∀ (ls : Array Bool) (a : Act) (w : World), (∀ j oj, ops[j]? = some oj → j ≠ i → ls.getD j true = false → (∀ e ∈ oj.after, Region.binds md e = true → e.on ≠ i) → oi.apart ops oj = true) →
   i ∈ Region.ready md ops ls → YieldsIf P ops S oi v a → S w → wpZ P md ops Q S z n (ls.setIfInBounds i true) (a.put oi.dst v) w → wpZ P md ops Q S z (n + 1) ls a w := by
 have sel := Region.noSelect_spec hs
 induction n with
 | zero =>
  intro ls a w _ hr hy hS H
  refine ⟨fun h => (by rw [h] at hr; cases hr), fun j hj => ?_⟩
  by_cases e : j = i
  ·
   subst e
   exact hy.wpOp hi hS ⟨fun _ => hS, H⟩
  ·
   have := ready_mono hj e
   rw [H.1] at this
   cases this
 | succ n ih =>
  intro ls a w hf hr hy hS H
  have hu := (mem_ready.1 hr).1
  refine ⟨fun h => (by rw [h] at hr; cases hr), fun j hj => ?_⟩
  by_cases e : j = i
  ·
   subst e
   exact hy.wpOp hi hS ⟨fun _ => hS, H⟩
  ·
   have hjz : j ≠ z := fun ez => not_ready hw hu (ez ▸ hj)
   have h1 := H.2 j (ready_mono hj e)
   obtain ⟨hjun, oj, hoj, hall⟩ := mem_ready.1 hj
   have hno : ∀ d ∈ oj.after, Region.binds md d = true → d.on ≠ i := fun d hd hb hq => by
    have k1 := hall d hd hb
    rw [hq] at k1
    rcases Nat.lt_or_ge i ls.size with h' | h'
    ·
     simp [h'] at hu k1
     rw [hu] at k1
     cases k1
    ·
     simp [Array.getElem?_eq_none h'] at k1
   have h2 := wpOp_putIf hoj (hf j oj hoj e hjun hno) (fun cs b => sel i oi cs b hi) (fun cs b => sel j oj cs b hoj) hQ hy h1
   refine wpOp_mono (fun a' w' h3 => ⟨h3.2.1, ih (ls.setIfInBounds j true) a' w' ?_ (ready_mono hr (Ne.symm e)) h3.1 (h3.2.1 hjz) ?_⟩) h2
   ·
    intro k ok hk hki hun hn
    refine hf k ok hk hki ?_ hn
    by_cases hjk : j = k
    ·
     subst hjk; exact hjun
    ·
     rw [getD_set_ne true hjk] at hun; exact hun
   ·
    rw [Array.setIfInBounds_comm _ _ e]
    exact h3.2.2
theorem wpZ_take {i : Nat} {oi : Oper} {v : Value} {n : Nat} {ls : Array Bool} {a : Act} {w : World} (hi : ops[i]? = some oi) (hs : Region.noSelect ops = true) (hw : zwaits md ops z i = true)
  (hf : Region.free md ops ls i = true) (hr : (Region.ready md ops ls).contains i = true) (hQ : ∀ c a w, Q (.panic c) (a.put oi.dst v) w → Q (.panic c) a w) (hy : YieldsIf P ops S oi v a) (hS : S w)
  (h : wpZ P md ops Q S z n (ls.setIfInBounds i true) (a.put oi.dst v) w) : wpZ P md ops Q S z (n + 1) ls a w :=
 wpZ_first hi hs hw hQ n ls a w (Region.free_spec hi hf) (by simpa using hr) hy hS h
theorem wpZ_one {i : Nat} {o : Oper} {n : Nat} {ls : Array Bool} {a : Act} {w : World} (hr : Region.ready md ops ls = [i]) (ho : ops[i]? = some o)
  (h : ∀ K : Act → World → Prop, Shut (∀ a w, (i ≠ z → S w) → wpZ P md ops Q S z n (ls.setIfInBounds i true) a w → K a w) → if Region.wanted o (yielded ops a.tmps) = true then Oper.wp P o a w K Q else K (a.put o.dst undef) w) :
  wpZ P md ops Q S z (n + 1) ls a w := by
 refine ⟨fun h0 => (by rw [h0] at hr; cases hr), fun j hj => ?_⟩
 rw [hr] at hj
 obtain rfl := List.mem_singleton.1 hj
 exact wpOp_step ho (fun K' hK => h K' (fun a w hS hW => hK a w ⟨hS, hW⟩))
theorem wpZ_done {ls : Array Bool} {a : Act} {w : World} (hr : Region.ready md ops ls = []) (h : Q .normal a w) : ∀ n, wpZ P md ops Q S z n ls a w
 | 0 => ⟨hr, h⟩
 | _ + 1 => ⟨fun _ => h, by rw [hr]; simp⟩
theorem region_Z {id : Nat} {a : Act} {w : World} (z : Nat) (S : World → Prop) (hm : P.follows .mixedOrders = true) (h : wpZ P .any ops Q S z ops.size (Array.replicate ops.size false) a w.drew) : (Code.region id ops true).wp P Q a w :=
 wp_region_any hm (any_of_Z _ _ _ _ h)
theorem zt {oi : Oper} {v : Value} {n : Nat} {ls : Array Bool} {a a' : Act} {w : World} (i : Nat) (hS : S w) (h : wpZ P md ops Q S z n (ls.setIfInBounds i true) a' w) (hi : ops[i]? = some oi := by rfl) (hs : Region.noSelect ops = true := by kernel_rfl) (hw : zwaits md ops z i = true := by kernel_rfl)
  (hf : Region.free md ops ls i = true := by kernel_rfl) (hr : (Region.ready md ops ls).contains i = true := by kernel_rfl) (hQ : ∀ c a w, Q (.panic c) (a.put oi.dst v) w → Q (.panic c) a w := by exact fun _ _ _ h => h) (hy1 : Region.wanted oi (yielded ops a.tmps) = true := by rfl)
  (hy2 : ∀ w, S w → (execOp a.eval oi).run P w = .ok (.value v) w := by intro w_ hSw; (try dsimp only at hSw); go_simp; try (with_reducible rfl))
  (ha : a.put oi.dst v = a' := by first | (simp only [Act.put, List.getElem_toArray, List.getElem_cons_succ, List.getElem_cons_zero, List.setIfInBounds_toArray, List.set_cons_zero, List.set_cons_succ]; rfl) | rfl) : wpZ P md ops Q S z (n + 1) ls a w := by
 subst ha
 exact wpZ_take hi hs hw hf hr hQ (Or.inl ⟨hy1, hy2⟩) hS h
end
end Go.Proofs.Ythobnoknbdljgaa.Hand
end
section
namespace Go.Proofs.Ythobnoknbdljgaa.Hand
open Go.RowKit PB0 Go.Proofs.YthobnoknbdljgaaW.PrintWords
section
variable {w w0 : World} {g g' : Nat} {t : TypeId} {c0 c1 c2 c3 c4 v0 v1 v2 v3 v4 : Value}
theorem put5_at (h : w.heap[g]? = some (.cells #[c0, c1, c2, c3, c4] t (0, 0))) :
  (((((w.setCell ⟨g, 0, none⟩ v0).setCell ⟨g, 1, none⟩ v1).setCell ⟨g, 2, none⟩ v2).setCell ⟨g, 3, none⟩ v3).setCell ⟨g, 4, none⟩ v4).heap[g]? = some (.cells #[v0, v1, v2, v3, v4] t (0, 0)) := by
 have h1 := blk_put (cs' := #[v0, c1, c2, c3, c4]) h 0 v0 rfl
 have h2 := blk_put (cs' := #[v0, v1, c2, c3, c4]) h1 1 v1 rfl
 have h3 := blk_put (cs' := #[v0, v1, v2, c3, c4]) h2 2 v2 rfl
 have h4 := blk_put (cs' := #[v0, v1, v2, v3, c4]) h3 3 v3 rfl
 exact blk_put (cs' := #[v0, v1, v2, v3, v4]) h4 4 v4 rfl
theorem put5_far {cs : Array Value} (h : w.heap[g']? = some (.cells cs t (0, 0))) (hn : g' ≠ g) :
  (((((w.setCell ⟨g, 0, none⟩ v0).setCell ⟨g, 1, none⟩ v1).setCell ⟨g, 2, none⟩ v2).setCell ⟨g, 3, none⟩ v3).setCell ⟨g, 4, none⟩ v4).heap[g']? = some (.cells cs t (0, 0)) :=
 blk_far (blk_far (blk_far (blk_far (blk_far h hn v0) hn v1) hn v2) hn v3) hn v4
theorem put5_below (h : Below w0.heap.size w0 w) (hg : w0.heap.size ≤ g) :
  Below w0.heap.size w0 (((((w.setCell ⟨g, 0, none⟩ v0).setCell ⟨g, 1, none⟩ v1).setCell ⟨g, 2, none⟩ v2).setCell ⟨g, 3, none⟩ v3).setCell ⟨g, 4, none⟩ v4) :=
 below_set (below_set (below_set (below_set (below_set h hg) hg) hg) hg) hg
theorem put5_R {α : Type} {d : Kd α} {e base : Nat} {ok : Nat → Prop} {v : Value} {xs : List α} {cs : Array Value} (h : d.R e w base ok v xs) (hb : w.heap[g]? = some (.cells cs t (0, 0))) (ht : ∀ q, q ∈ e :: d.E → q ≠ t) :
  d.R e (((((w.setCell ⟨g, 0, none⟩ v0).setCell ⟨g, 1, none⟩ v1).setCell ⟨g, 2, none⟩ v2).setCell ⟨g, 3, none⟩ v3).setCell ⟨g, 4, none⟩ v4) base ok v xs := by
 refine Kd.R_mono (Kd.R_step (Kd.R_types h hb ht) (fun k hk _ => ?_)) (fun _ hk => hk.1)
 rw [heap_setO hk.2, heap_setO hk.2, heap_setO hk.2, heap_setO hk.2, heap_setO hk.2]
end
theorem isOne_len (l : List Int) : (isOne l).length = l.length := List.length_map _
theorem dK_names (m ti ty ch : Nat) (bs : List Int) (hch : ch ≤ 256) (hty : ty ≤ 256) : nmSum (names (dK m ti ty ch bs)) ≤ 1000000 := by
 have h1 : (names (dK m ti ty ch bs)).length = ty := by simp [names, dK]
 have h2 := nmSum_le 256 (names (dK m ti ty ch bs)) (by
  intro s hs
  simp only [names, dK, List.map_map, List.mem_map, Function.comp] at hs
  obtain ⟨i, _, rfl⟩ := hs
  have h3 := nameI_size (dNs m ti ty ch bs) (kat (o1 m ti) bs i)
  have h4 : (dNs m ti ty ch bs).length ≤ ch := by unfold dNs; rw [List.length_take]; omega
  show (nameI (dNs m ti ty ch bs) (kat (o1 m ti) bs i)).1.size ≤ 256
  omega)
 rw [h1] at h2
 have h5 : ty * (256 + 1) ≤ 256 * 257 := Nat.mul_le_mul hty (Nat.le_refl _)
 omega
theorem encOK_d (m ut sd le ti ty ch : Nat) (bs : List Int) (h : ti ≤ 5000 ∧ le ≤ 5000 ∧ ty ≤ 256 ∧ ch ≤ 256 ∧ ut ≤ 256 ∧ sd ≤ 256) :
  encOK (dK m ti ty ch bs) (dJ m ti bs) (dL m le ti ty ch bs) (isOne (dS m sd le ti ty ch bs)) (isOne (dU m ut sd le ti ty ch bs)) := by
 obtain ⟨h1, h2, h3, h4, h5, h6⟩ := h
 refine ⟨?_, dK_names m ti ty ch bs h4 h3, ?_, ?_, ?_, ?_⟩
 ·
  simp [dK]; omega
 ·
  simp [dJ]; omega
 ·
  simp [dL]; omega
 ·
  rw [isOne_len]; unfold dS; rw [List.length_take]; omega
 ·
  rw [isOne_len]; unfold dU; rw [List.length_take]; omega
end Go.Proofs.Ythobnoknbdljgaa.Hand
end
section
namespace Go.Proofs.Ythobnoknbdljgaa.Hand
open Go.RowKit Go.Proofs.YthobnoknbdljgaaW.PrintWords Go.Proofs.YthobnoknbdljgaaW.PrintLast Go.Proofs.YthobnoknbdljgaaW.PrintMore PB0
set_option linter.unusedVariables false
set_option linter.unusedSimpArgs false
set_option maxHeartbeats 8000000 in
set_option maxRecDepth 100000 in
theorem decode4_walk (A0 : Option Addr) (c0 : Nat) (l0 : List Int) (v : Int) (ut sd le ti ty ch : Nat) (w : World) (hr0 : Kd.C (Kd.int .u8) w A0 l0.length l0) (hc0 : l0.length ≤ c0) (hp : rightP v ut sd le ti ty ch) (hl : bodyN 4 ut sd le ti ty ch ≤ l0.length) :
  Calls Try.prog 21 #[.slice A0 l0.length c0, .agg #[.int .i64 v, .int .i64 ut, .int .i64 sd, .int .i64 le, .int .i64 ti, .int .i64 ty, .int .i64 ch], .int .i64 4] w fun e w' => ∃ v0_ v1_ v2_ v3_ v4_ : Value, ∃ (r1 : List S56) (r2 : List S54) (r3 : List S67) (r4 r5 : List Bool) (r6 : Int), block_Decode.f l0 v ut sd le ti ty ch 4 = some (r1, r2, r3, r4, r5, r6) ∧ e = .returned (.tuple #[.agg #[v0_, v1_, v2_, v3_, v4_], .int .i64 r6]) ∧ Kd.R k56 56 w' w.heap.size (fun _ => True) v0_ r1 ∧ Kd.R k54 54 w' w.heap.size (fun _ => True) v1_ r2 ∧ Kd.R k67 67 w' w.heap.size (fun _ => True) v2_ r3 ∧ Kd.R Kd.bool 4 w' w.heap.size (fun k_ => some k_ ≠ (v4_ : Value).ownBlock) v3_ r4 ∧ Kd.R Kd.bool 4 w' w.heap.size (fun k_ => some k_ ≠ (v3_ : Value).ownBlock) v4_ r5 ∧ Below w.heap.size w w' := by
 have hu27 := Try.underlying27
 have hu35 := Try.underlying35
 have hu81 := Try.underlying81
 have HB := Aside0.mk (Below.refl w.heap.size w)
 have HP := Aside0.mk (show PB0.header_Right.f v ut sd le ti ty ch = some true by rw [hright_f, decide_eq_true hp])
 have HBO := Aside0.mk (body_4 v ut sd le ti ty ch hp)
 have hbd : ti ≤ 5000 ∧ le ≤ 5000 ∧ ty ≤ 256 ∧ ch ≤ 256 ∧ ut ≤ 256 ∧ sd ≤ 256 := by
  obtain ⟨h1, h2, h3, h4, h5, h6, h7⟩ := hp
  omega
 obtain ⟨nB, hnB⟩ : ∃ x, x = bodyN 4 ut sd le ti ty ch := ⟨_, rfl⟩
 rw [← hnB] at hl HBO
 obtain ⟨bs, hbs⟩ : ∃ x, x = l0.take nB := ⟨_, rfl⟩
 have hbl : bs.length = nB := by rw [hbs, List.length_take]; omega
 have HC := Aside0.mk (show Kd.C (Kd.int .u8) w A0 bs.length bs by rw [hbs]; exact Kd.C_take hr0 hl)
 have HF := Aside0.mk (show ∀ (p q : Bool), dOK 4 ut sd le ti ty ch bs = p → dRight 4 v ut sd le ti ty ch bs = q → block_Decode.f l0 v ut sd le ti ty ch 4 = if p = true ∧ q = true then some (dK 4 ti ty ch bs, dJ 4 ti bs, dL 4 le ti ty ch bs, isOne (dS 4 sd le ti ty ch bs), isOne (dU 4 ut sd le ti ty ch bs), 0) else some ([], [], [], [], [], 4) from by
  intro p q e1 e2
  unfold block_Decode.f
  rw [if_pos ⟨by decide, hp⟩]
  simp only [Int.toNat_natCast, show ((4 : Int)).toNat = 4 from rfl]
  rw [← hnB, if_neg (by omega), ← hbs, e1, e2])
 have HN := Aside0.mk hnB
 have HL := Aside0.mk hbl
 have ha := cut_h A0 l0.length c0 (nB : Int) (by omega) (by omega)
 rw [Int.toNat_natCast] at ha
 have HQ := Aside0.mk (show nB ≤ c0 by omega)
 have hlt0 : decide ((l0.length : Int) < (nB : Int)) = false := decide_eq_false (by omega)
 have hlt1 : decide (l0.length < nB) = false := decide_eq_false (by omega)
 clear hnB hbs hbl hr0 hc0 hp hl
 go_enter Try.func21, Try.ntmps21
 go_upto_region 7 with (first
  | ((with_reducible refine gate_dst (N := 4) rfl ?_); refine box_event ?hg (N := 4) ?hd (cs := #[.int .i64 v, .int .i64 ut, .int .i64 sd, .int .i64 le, .int .i64 ti, .int .i64 ty, .int .i64 ch]) (t := 35) ?hr ?_; (case hd => rfl); (case hg => rfl); (case hr => first | (go_simp; done) | (go_simp; rfl)); intro g4 hg w1 hbox hb; have Bg4 := Aside0.mk hbox; have GEg4 := Aside0.mk (show w.heap.size ≤ g4 by first | omega | (have h_ := below_size HB.out; omega)); clear hbox hg; have n0_ := Aside0.mk (below_step HB.out hb); clear HB; have HB := n0_; clear n0_ hb; obtain ⟨s0, s1, s2, s3, s4, s5, s6⟩ := Sq.c7 Bg4)
  | ((with_reducible refine gate_dst (N := 6) rfl ?_); refine box_event ?hg (N := 6) ?hd (cs := #[.slice none 0 0, .slice none 0 0, .slice none 0 0, .slice none 0 0, .slice none 0 0]) (t := 27) ?hr ?_; (case hd => rfl); (case hg => rfl); (case hr => first | (go_simp; done) | (go_simp; rfl)); intro g6 hg w2 hbox hb; have Bg6 := Aside0.mk hbox; have GEg6 := Aside0.mk (show w.heap.size ≤ g6 by first | omega | (have h_ := below_size HB.out; omega)); have NE46 := Aside0.mk (show g4 ≠ g6 by have := blk_lt Bg4.out; omega); clear hbox hg; have n0_ := Aside0.mk (blk_below Bg4.out hb); have n1_ := Aside0.mk (below_step HB.out hb); clear Bg4 HB; have Bg4 := n0_; have HB := n1_; clear n0_ n1_ hb; obtain ⟨t0, t1, t2, t3, t4, t5, t6⟩ := Sq.c7 Bg4)
  | (go_at_call 19; (with_reducible refine (PB0.header_Right.calls v ut sd le ti ty ch true _ HP.out).mono ?_); rintro e w3 ⟨rfl, hb⟩; have n0_ := Aside0.mk (blk_below Bg4.out hb); have n1_ := Aside0.mk (blk_below Bg6.out hb); have n2_ := Aside0.mk (below_step HB.out hb); clear Bg4 Bg6 HB; have Bg4 := n0_; have Bg6 := n1_; have HB := n2_; clear n0_ n1_ n2_ hb; obtain ⟨x0, x1, x2, x3, x4, x5, x6⟩ := Sq.c7 Bg4)
  | (go_at_call 20; (with_reducible refine (PB0.header_Body.calls v ut sd le ti ty ch 4 (nB : Int) _ HBO.out).mono ?_); rintro e w4 ⟨rfl, hb⟩; have n0_ := Aside0.mk (blk_below Bg4.out hb); have n1_ := Aside0.mk (blk_below Bg6.out hb); have n2_ := Aside0.mk (below_step HB.out hb); clear Bg4 Bg6 HB; have Bg4 := n0_; have Bg6 := n1_; have HB := n2_; clear n0_ n1_ n2_ hb; obtain ⟨y0, y1, y2, y3, y4, y5, y6⟩ := Sq.c7 Bg4)
  | ((with_reducible refine gate_dst (N := 40) rfl ?_); refine box_event ?hg (N := 40) ?hd (cs := #[.slice A0 nB c0, .bool true]) (t := 81) ?hr ?_; (case hd => rfl); (case hg => rfl); (case hr => first | (go_simp; done) | (go_simp; rfl)); intro gr hg w5 hbox hb; have Bgr := Aside0.mk hbox; have GEgr := Aside0.mk (show w.heap.size ≤ gr by first | omega | (have h_ := below_size HB.out; omega)); have NE6r := Aside0.mk (show g6 ≠ gr by have := blk_lt Bg6.out; omega); have NE4r := Aside0.mk (show g4 ≠ gr by have := blk_lt Bg4.out; omega); clear hbox hg; have n0_ := Aside0.mk (blk_below Bg4.out hb); have n1_ := Aside0.mk (blk_below Bg6.out hb); have n2_ := Aside0.mk (below_step HB.out hb); clear Bg4 Bg6 HB; have Bg4 := n0_; have Bg6 := n1_; have HB := n2_; clear n0_ n1_ n2_ hb))
 refine forget_wp (fun wc => Aside0 (wc.heap[g4]? = some (.cells #[.int .i64 v, .int .i64 ut, .int .i64 sd, .int .i64 le, .int .i64 ti, .int .i64 ty, .int .i64 ch] 35 (0, 0))) ∧ Aside0 (wc.heap[g6]? = some (.cells #[.slice none 0 0, .slice none 0 0, .slice none 0 0, .slice none 0 0, .slice none 0 0] 27 (0, 0))) ∧ Aside0 (Rd w gr (bs.drop (4 * 0)) true wc) ∧ Aside0 (gr < wc.heap.size)) ⟨Bg4, Bg6, ⟨GEgr.out, HB.out, A0, c0, by rw [Nat.mul_zero, List.drop_zero, HL.out]; exact Bgr.out, by rw [Nat.mul_zero, List.drop_zero]; exact HC.out, by rw [Nat.mul_zero, List.drop_zero, HL.out]; exact HQ.out⟩, ⟨blk_lt Bgr.out⟩⟩ ?_
 clear Bg4 Bg6 Bgr HB ha hlt0 hlt1 HC HQ HP HBO
 try clear s0 s1 s2 s3 s4 s5 s6
 try clear t0 t1 t2 t3 t4 t5 t6
 try clear x0 x1 x2 x3 x4 x5 x6
 try clear y0 y1 y2 y3 y4 y5 y6
 rintro w6 ⟨B4, B6, HR, LTr⟩
 have h4 : w6.cell? ⟨g4, 4, none⟩ = some (.int .i64 ti) := (blk_cell B4.out 4).trans rfl
 go_wp2
 go_loopw [43] (fun i wr => ∃ (k : Nat) (v1 : Value), k ≤ ti ∧ i = .int .i64 k ∧ Kd.R k54 54 wr w.heap.size (fun _ => True) v1 ((List.range k).map (jump0 4 bs)) ∧ Aside0 (wr.heap[g4]? = some (.cells #[.int .i64 v, .int .i64 ut, .int .i64 sd, .int .i64 le, .int .i64 ti, .int .i64 ty, .int .i64 ch] 35 (0, 0))) ∧ Aside0 (wr.heap[g6]? = some (.cells #[.slice none 0 0, v1, .slice none 0 0, .slice none 0 0, .slice none 0 0] 27 (0, 0))) ∧ Aside0 (Rd w gr (bs.drop (4 * k)) true wr) ∧ Aside0 (gr < wr.heap.size)) (fun i _ => ti - (intOf i).toNat)
 case atStart => exact ⟨0, _, Nat.zero_le _, rfl, Kd.R_nil _ _ _ _ _, B4, B6, HR, LTr⟩
 clear B4 B6 HR LTr h4
 obtain ⟨k, v1, hk, rfl, hO, B4, B6, HR, LTr⟩ := hrel
 have HO := Aside0.mk hO
 clear hO
 by_cases hlt : k < ti
 ·
  have cl : decide ((k : Int) < (ti : Int)) = true := decide_eq_true (by omega)
  have HE := Aside0.mk (show 4 ≤ (bs.drop (4 * k)).length from (by have h1_ := HN.out; have h2_ := HL.out; rw [List.length_drop]; simp only [bodyN, o1, o2, o3, o4, o5] at h1_ ⊢; omega))
  go_upto_region 9 with fail
  refine region_Z 9 (fun w' => w'.cell? ⟨g6, 1, none⟩ = some v1) (by kernel_rfl) ?_
  refine zt 0 ((blk_cell B6.out 1).trans rfl) ?_; refine zt 1 ((blk_cell B6.out 1).trans rfl) ?_; refine zt 2 ((blk_cell B6.out 1).trans rfl) ?_; refine zt 3 ((blk_cell B6.out 1).trans rfl) ?_
  (refine wpZ_one (i := 4) (by kernel_rfl) rfl (fun K_ hK_ => ?_); go_simp; go_wp2_with (first | (go_at_call 37; (with_reducible refine (number_4 (rd_drew HR.out) HE.out).mono ?_); rintro e w7 ⟨rfl, hR1, hK1⟩; have n0_ := Aside0.mk (blk_kb (blk_drew B4.out) hK1 NE4r.out); have n1_ := Aside0.mk (blk_kb (blk_drew B6.out) hK1 NE6r.out); have n2_ := Aside0.mk (R_kb (Kd.R_drew HO.out) (rd_drew HR.out) (by decide) hK1); have n3_ := Aside0.mk (Nat.lt_of_lt_of_le LTr.out hK1.1); have n4_ := Aside0.mk hR1; clear B4 B6 HO LTr HR hR1 hK1; have B4 := n0_; have B6 := n1_; have HO := n2_; have LTr := n3_; have HR := n4_; clear n0_ n1_ n2_ n3_ n4_)); refine hK_.out _ _ (fun _ => (blk_cell B6.out 1).trans rfl) ?_; clear hK_ K_; (try simp only [Act.put, List.setIfInBounds_toArray, List.set_cons_zero, List.set_cons_succ]))
  refine zt 5 ((blk_cell B6.out 1).trans rfl) ?_
  (refine wpZ_one (i := 6) (by kernel_rfl) rfl (fun K_ hK_ => ?_); go_simp; refine hK_.out _ _ (fun _ => (blk_cell (blk_alloc B6.out _) 1).trans rfl) ?_; clear hK_ K_; (try simp only [Act.put, List.setIfInBounds_toArray, List.set_cons_zero, List.set_cons_succ]))
  (refine wpZ_one (i := 7) (by kernel_rfl) rfl (fun K_ hK_ => ?_); refine Kd.R_append_step k54 (w0 := w7) w.heap.size rfl (.tmp 46) (.tmp 51) 23 54 (.agg #[.int .i64 0, .int .i64 0]) 16 rfl Try.underlying23 info_jump rfl (by decide) (by omega) v1 ((List.range k).map (jump0 4 bs)) (jump0 4 bs k) [.int .i64 (numU 4 (bs.drop (4 * k))), .int .i64 0] (fun _ => True) (fun _ => False) rfl rfl (k54_mkM _ _ _ (jump0 4 bs k)) (fun _ h => h.elim) (fun _ _ => trivial) HO.out (Below.refl _ _) (Nat.le_of_lt (Nat.lt_of_le_of_lt HR.out.1 LTr.out)) (by simp only [List.length_map, List.length_range]; omega) ?_; intro v7 w8 ho hb hg hat; have n0_ := Aside0.mk (blk_grown B4.out hg (Kd.R_ne HO.out B4.out (by decide))); have n1_ := Aside0.mk (blk_grown B6.out hg (Kd.R_ne HO.out B6.out (by decide))); have n2_ := Aside0.mk (Nat.lt_of_lt_of_le LTr.out hg.size); have n3_ := Aside0.mk (rd_grown HR.out HO.out (by decide) hb hg); have n4_ := Aside0.mk ho; clear B4 B6 LTr HR HO ho hb hg hat; have B4 := n0_; have B6 := n1_; have LTr := n2_; have HR := n3_; have HO := n4_; clear n0_ n1_ n2_ n3_ n4_; refine hK_.out _ _ (fun _ => (blk_cell B6.out 1).trans rfl) ?_; clear hK_ K_; (try simp only [Act.put, List.setIfInBounds_toArray, List.set_cons_zero, List.set_cons_succ]))
  obtain ⟨A7, c7, rfl⟩ := Kd.R_slice HO.out
  refine zt 8 ((blk_cell B6.out 1).trans rfl) ?_
  have z1 : w8.cell? ⟨g6, 1, none⟩ = some v1 := (blk_cell B6.out 1).trans rfl
  have z2 := blk_frozen B6.out 1
  (refine wpZ_one (i := 9) (by kernel_rfl) rfl (fun K_ hK_ => ?_); go_simp; refine hK_.out _ _ (fun h => absurd rfl h) ?_; clear hK_ K_; (try simp only [Act.put, List.setIfInBounds_toArray, List.set_cons_zero, List.set_cons_succ]))
  refine wpZ_done (by kernel_rfl) ?_ _
  clear z1 z2
  go_wp2
  go_roundw
  case rel =>
   refine ⟨k + 1, _, by omega, by go_num, ?_, ⟨blk_far B4.out NE46.out _⟩, ⟨blk_put B6.out 1 _ rfl⟩, ⟨?_⟩, ⟨by rw [World.size_setCell]; exact LTr.out⟩⟩
   ·
    rw [map_snoc]
    have h := Kd.R_set HO.out B6.out (by decide) 1
    first | exact h _ | (simp only [List.length_append, List.length_map, List.length_range, List.length_cons, List.length_nil] at h ⊢; exact h _)
   have h := rd_set HR.out NE6r.out GEg6.out 1
   rw [List.drop_drop] at h
   exact h _
  case measure => simp [intOf]; omega
 have hkt : ti = k := by omega
 subst hkt
 have cl : decide ((ti : Int) < (ti : Int)) = false := decide_eq_false (by omega)
 obtain ⟨A1, c1, rfl⟩ := Kd.R_slice HO.out
 have hl1 : ((List.range ti).map (jump0 4 bs)).length = ti := by simp
 rw [hl1] at HO B6
 rw [← jl_zero] at HO
 clear hl1 hlt hk
 have h1 : wr.cell? ⟨g6, 1, none⟩ = some (.slice A1 ti c1) := (blk_cell B6.out 1).trans rfl
 go_wp2
 go_loopw [58] (fun i wr => ∃ (k : Nat), k ≤ ti ∧ i = .int .i64 k ∧ Kd.R k54 54 wr w.heap.size (fun _ => True) (.slice A1 ti c1) (jl 4 ti bs k) ∧ Aside0 (wr.heap[g4]? = some (.cells #[.int .i64 v, .int .i64 ut, .int .i64 sd, .int .i64 le, .int .i64 ti, .int .i64 ty, .int .i64 ch] 35 (0, 0))) ∧ Aside0 (wr.heap[g6]? = some (.cells #[.slice none 0 0, .slice A1 ti c1, .slice none 0 0, .slice none 0 0, .slice none 0 0] 27 (0, 0))) ∧ Aside0 (Rd w gr (bs.drop (4 * ti + k)) true wr) ∧ Aside0 (gr < wr.heap.size)) (fun i _ => ti - (intOf i).toNat)
 case atStart => exact ⟨0, Nat.zero_le _, rfl, HO.out, B4, B6, HR, LTr⟩
 clear B4 B6 HR LTr h1 HO cl
 obtain ⟨k, hk, rfl, hO, B4, B6, HR, LTr⟩ := hrel
 have HO := Aside0.mk hO
 clear hO
 by_cases hlt : k < ti
 ·
  have cl : decide ((k : Int) < (ti : Int)) = true := decide_eq_true (by omega)
  have ck0 : decide (0 ≤ (k : Int)) = true := decide_eq_true (by omega)
  have HE := Aside0.mk (show 1 ≤ (bs.drop (4 * ti + k)).length from (by have h1_ := HN.out; have h2_ := HL.out; rw [List.length_drop]; simp only [bodyN, o1, o2, o3, o4, o5] at h1_ ⊢; omega))
  obtain ⟨g, cap, hv, _, hg0, cells, hcells⟩ := Kd.R_form HO.out (by rw [jl_len]; omega)
  rw [jl_len] at hv
  injection hv with e1 _ e3
  subst e1
  subst e3
  go_upto_region 14 with fail
  refine region_Z 99 (fun w' => w'.cell? ⟨g6, 1, none⟩ = some (.slice (some ⟨g, 0, none⟩) ti c1)) (by kernel_rfl) ?_
  refine zt 0 ((blk_cell B6.out 1).trans rfl) ?_; refine zt 1 ((blk_cell B6.out 1).trans rfl) ?_; refine zt 2 ((blk_cell B6.out 1).trans rfl) ?_; refine zt 3 ((blk_cell B6.out 1).trans rfl) ?_
  (refine wpZ_one (i := 4) (by kernel_rfl) rfl (fun K_ hK_ => ?_); go_simp; go_wp2_with (first | (go_at_call 38; (with_reducible refine (take_1 (rd_drew HR.out) HE.out).mono ?_); rintro e w7 ⟨ad, c7, rfl, hx0, hR1, hK1⟩; have n0_ := Aside0.mk (blk_kb (blk_drew B4.out) hK1 NE4r.out); have n1_ := Aside0.mk (blk_kb (blk_drew B6.out) hK1 NE6r.out); have n2_ := Aside0.mk (R_kb (Kd.R_drew HO.out) (rd_drew HR.out) (by decide) hK1); have n3_ := Aside0.mk (Nat.lt_of_lt_of_le LTr.out hK1.1); have n4_ := Aside0.mk hR1; clear B4 B6 HO LTr HR hR1 hK1; have B4 := n0_; have B6 := n1_; have HO := n2_; have LTr := n3_; have HR := n4_; clear n0_ n1_ n2_ n3_ n4_)); refine hK_.out _ _ (fun _ => (blk_cell B6.out 1).trans rfl) ?_; clear hK_ K_; (try simp only [Act.put, List.setIfInBounds_toArray, List.set_cons_zero, List.set_cons_succ]))
  (refine wpZ_one (i := 5) (by kernel_rfl) rfl (fun K_ hK_ => ?_); go_simp; refine hK_.out _ _ (fun _ => (blk_cell B6.out 1).trans rfl) ?_; clear hK_ K_; (try simp only [Act.put, List.setIfInBounds_toArray, List.set_cons_zero, List.set_cons_succ]))
  (refine wpZ_one (i := 6) (by kernel_rfl) rfl (fun K_ hK_ => ?_); go_simp; refine hK_.out _ _ (fun _ => (blk_cell B6.out 1).trans rfl) ?_; clear hK_ K_; (try simp only [Act.put, List.setIfInBounds_toArray, List.set_cons_zero, List.set_cons_succ]))
  (refine wpZ_one (i := 7) (by kernel_rfl) rfl (fun K_ hK_ => ?_); go_simp; refine hK_.out _ _ (fun _ => (blk_cell B6.out 1).trans rfl) ?_; clear hK_ K_; (try simp only [Act.put, List.setIfInBounds_toArray, List.set_cons_zero, List.set_cons_succ]))
  obtain ⟨HS1, HS2, ⟨u0, hz1⟩, hz2⟩ := jump_put HO.out k hlt (wrap64 (rd (bs.drop (4 * ti + k)) 0))
  have HS := Aside0.mk HS1
  have HG := Aside0.mk HS2
  clear HS1 HS2
  (refine wpZ_one (i := 8) (by kernel_rfl) rfl (fun K_ hK_ => ?_); go_simp; refine hK_.out _ _ (fun _ => (blk_cell B6.out 1).trans rfl) ?_; clear hK_ K_; (try simp only [Act.put, List.setIfInBounds_toArray, List.set_cons_zero, List.set_cons_succ]))
  (refine wpZ_one (i := 9) (by kernel_rfl) rfl (fun K_ hK_ => ?_); go_simp; refine hK_.out _ _ (fun _ => (blk_cell B6.out 1).trans rfl) ?_; clear hK_ K_; (try simp only [Act.put, List.setIfInBounds_toArray, List.set_cons_zero, List.set_cons_succ]))
  have hn6 : g6 ≠ g := fun e => Kd.R_ne HO.out B6.out (by decide) (by rw [e]; simp [Value.ownBlock])
  have hn4 : g4 ≠ g := fun e => Kd.R_ne HO.out B4.out (by decide) (by rw [e]; simp [Value.ownBlock])
  obtain ⟨cells7, hcells7⟩ := Kd.R_typed HO.out g (by simp [Value.ownBlock])
  have hge := Kd.R_base HO.out g (by simp [Value.ownBlock])
  have HC7 := Aside0.mk (And.intro hcells7 hge)
  clear hcells7 hge
  (refine wpZ_one (i := 10) (by kernel_rfl) rfl (fun K_ hK_ => ?_); go_simp; refine hK_.out _ _ (fun _ => (blk_cell (blk_far B6.out hn6 _) 1).trans rfl) ?_; clear hK_ K_; (try simp only [Act.put, List.setIfInBounds_toArray, List.set_cons_zero, List.set_cons_succ]))
  refine wpZ_done (by kernel_rfl) ?_ _
  clear hz1 hz2 hx0
  go_wp2
  go_roundw
  case rel =>
   refine ⟨k + 1, by omega, by go_num, ?_, ⟨blk_far B4.out hn4 _⟩, ⟨blk_far B6.out hn6 _⟩, ⟨?_⟩, ⟨by rw [World.size_setCell]; exact LTr.out⟩⟩
   ·
    rw [← jl_set 4 ti bs k hlt]
    exact HS.out
   have h := rd_grow HR.out HG.out HC7.out.1 (by decide) HC7.out.2
   rw [List.drop_drop, Nat.add_assoc] at h
   exact h
  case measure => simp [intOf]; omega
 have hkt : ti = k := by omega
 subst hkt
 have cl : decide ((ti : Int) < (ti : Int)) = false := decide_eq_false (by omega)
 rw [jl_all] at HO
 obtain ⟨v1, hv1⟩ : ∃ x, x = Value.slice A1 ti c1 := ⟨_, rfl⟩
 rw [← hv1] at HO B6
 clear hv1 hlt hk
 have hoff : 4 * ti + ti = o1 4 ti + 6 * 0 := by unfold o1; omega
 rw [hoff] at HR
 clear hoff
 have h5 : wr.cell? ⟨g4, 5, none⟩ = some (.int .i64 ty) := (blk_cell B4.out 5).trans rfl
 have HJ := HO
 clear HO
 go_wp2
 go_loopw [11, 74] (fun va i wr => ∃ (k : Nat) (v0 : Value), k ≤ ty ∧ i = .int .i64 k ∧ Kd.R k56 56 wr w.heap.size (fun _ => True) v0 ((List.range k).map (kind0 (o1 4 ti) bs)) ∧ Aside0 (Kd.R (Kd.int .i64) 3 wr w.heap.size (fun _ => True) va ((List.range k).map (kat (o1 4 ti) bs))) ∧ Aside0 (Kd.R k54 54 wr w.heap.size (fun _ => True) v1 (dJ 4 ti bs)) ∧ Aside0 (wr.heap[g4]? = some (.cells #[.int .i64 v, .int .i64 ut, .int .i64 sd, .int .i64 le, .int .i64 ti, .int .i64 ty, .int .i64 ch] 35 (0, 0))) ∧ Aside0 (wr.heap[g6]? = some (.cells #[v0, v1, .slice none 0 0, .slice none 0 0, .slice none 0 0] 27 (0, 0))) ∧ Aside0 (Rd w gr (bs.drop (o1 4 ti + 6 * k)) ((List.range k).all (ktrue (o1 4 ti) bs)) wr) ∧ Aside0 (gr < wr.heap.size)) (fun _ i _ => ty - (intOf i).toNat)
 case atStart => exact ⟨0, _, Nat.zero_le _, rfl, Kd.R_nil _ _ _ _ _, ⟨Kd.R_nil _ _ _ _ _⟩, HJ, B4, B6, HR, LTr⟩
 clear B4 B6 HR LTr h5 HJ cl
 obtain ⟨k, v0, hk, rfl, hO, HT, HJ, B4, B6, HR, LTr⟩ := hrel
 have HO := Aside0.mk hO
 clear hO
 by_cases hlt : k < ty
 ·
  have cl : decide ((k : Int) < (ty : Int)) = true := decide_eq_true (by omega)
  have HE := Aside0.mk (show 4 ≤ (bs.drop (o1 4 ti + 6 * k)).length from (by have h1_ := HN.out; have h2_ := HL.out; rw [List.length_drop]; simp only [bodyN, o1, o2, o3, o4, o5] at h1_ ⊢; omega))
  have HE2 := Aside0.mk (show 1 ≤ ((bs.drop (o1 4 ti + 6 * k)).drop 4).length from by rw [List.drop_drop]; exact (by have h1_ := HN.out; have h2_ := HL.out; rw [List.length_drop]; simp only [bodyN, o1, o2, o3, o4, o5] at h1_ ⊢; omega))
  go_upto_region 19 with fail
  refine region_Z 10 (fun w' => w'.cell? ⟨g6, 0, none⟩ = some v0) (by kernel_rfl) ?_
  refine zt 0 ((blk_cell B6.out 0).trans rfl) ?_; refine zt 1 ((blk_cell B6.out 0).trans rfl) ?_; refine zt 2 ((blk_cell B6.out 0).trans rfl) ?_; refine zt 4 ((blk_cell B6.out 0).trans rfl) ?_
  (refine wpZ_one (i := 3) (by kernel_rfl) rfl (fun K_ hK_ => ?_); go_simp; go_wp2_with (first | (go_at_call 37; (with_reducible refine (number_4 (rd_drew HR.out) HE.out).mono ?_); rintro e w7 ⟨rfl, hR1, hK1⟩; have n0_ := Aside0.mk (blk_kb (blk_drew B4.out) hK1 NE4r.out); have n1_ := Aside0.mk (blk_kb (blk_drew B6.out) hK1 NE6r.out); have n2_ := Aside0.mk (R_kb (Kd.R_drew HO.out) (rd_drew HR.out) (by decide) hK1); have n3_ := Aside0.mk (R_kb (Kd.R_drew HJ.out) (rd_drew HR.out) (by decide) hK1); have n4_ := Aside0.mk (R_kb (Kd.R_drew HT.out) (rd_drew HR.out) (by decide) hK1); have n5_ := Aside0.mk (Nat.lt_of_lt_of_le LTr.out hK1.1); have n6_ := Aside0.mk hR1; clear B4 B6 HO HJ HT LTr HR hR1 hK1; have B4 := n0_; have B6 := n1_; have HO := n2_; have HJ := n3_; have HT := n4_; have LTr := n5_; have HR := n6_; clear n0_ n1_ n2_ n3_ n4_ n5_ n6_)); refine hK_.out _ _ (fun _ => (blk_cell B6.out 0).trans rfl) ?_; clear hK_ K_; (try simp only [Act.put, List.setIfInBounds_toArray, List.set_cons_zero, List.set_cons_succ]))
  (refine wpZ_one (i := 5) (by kernel_rfl) rfl (fun K_ hK_ => ?_); go_simp; go_wp2_with (first | (go_at_call 39; (with_reducible refine (truth_c HR.out HE2.out).mono ?_); rintro e w8 ⟨rfl, hR1, hK1⟩; have n0_ := Aside0.mk (blk_kb (B4.out) hK1 NE4r.out); have n1_ := Aside0.mk (blk_kb (B6.out) hK1 NE6r.out); have n2_ := Aside0.mk (R_kb (HO.out) (HR.out) (by decide) hK1); have n3_ := Aside0.mk (R_kb (HJ.out) (HR.out) (by decide) hK1); have n4_ := Aside0.mk (R_kb (HT.out) (HR.out) (by decide) hK1); have n5_ := Aside0.mk (Nat.lt_of_lt_of_le LTr.out hK1.1); have n6_ := Aside0.mk hR1; clear B4 B6 HO HJ HT LTr HR hR1 hK1; have B4 := n0_; have B6 := n1_; have HO := n2_; have HJ := n3_; have HT := n4_; have LTr := n5_; have HR := n6_; clear n0_ n1_ n2_ n3_ n4_ n5_ n6_)); refine hK_.out _ _ (fun _ => (blk_cell B6.out 0).trans rfl) ?_; clear hK_ K_; (try simp only [Act.put, List.setIfInBounds_toArray, List.set_cons_zero, List.set_cons_succ]))
  refine zt 6 ((blk_cell B6.out 0).trans rfl) ?_
  (refine wpZ_one (i := 7) (by kernel_rfl) rfl (fun K_ hK_ => ?_); go_simp; refine hK_.out _ _ (fun _ => (blk_cell (blk_alloc B6.out _) 0).trans rfl) ?_; clear hK_ K_; (try simp only [Act.put, List.setIfInBounds_toArray, List.set_cons_zero, List.set_cons_succ]))
  simp only [List.drop_drop] at HR
  (refine wpZ_one (i := 8) (by kernel_rfl) rfl (fun K_ hK_ => ?_); refine Kd.R_append_step k56 (w0 := w8) w.heap.size rfl (.tmp 77) (.tmp 83) 22 56 (.agg #[.int .i64 0, .bool false, .string ⟨#[]⟩]) 32 rfl Try.underlying22 info_kind rfl (by decide) (by omega) v0 ((List.range k).map (kind0 (o1 4 ti) bs)) (kind0 (o1 4 ti) bs k) [.int .i64 (numU 4 (bs.drop (o1 4 ti + 6 * k))), .bool (rd (bs.drop (o1 4 ti + 6 * k + 4)) 0 == 1), .string ⟨#[]⟩] (fun _ => True) (fun _ => False) rfl rfl (k56_mkM _ _ _ (kind0 (o1 4 ti) bs k)) (fun _ h => h.elim) (fun _ _ => trivial) HO.out (Below.refl _ _) (Nat.le_of_lt (Nat.lt_of_le_of_lt HR.out.1 LTr.out)) (by simp only [List.length_map, List.length_range]; omega) ?_; intro v7 w9 ho hb hg hat; have n0_ := Aside0.mk (blk_grown B4.out hg (Kd.R_ne HO.out B4.out (by decide))); have n1_ := Aside0.mk (blk_grown B6.out hg (Kd.R_ne HO.out B6.out (by decide))); have n2_ := Aside0.mk (Kd.R_over' HJ.out (Kd.R_typed HO.out) (by decide) hg); have n3_ := Aside0.mk (Kd.R_over' HT.out (Kd.R_typed HO.out) (by decide) hg); have n4_ := Aside0.mk (Nat.lt_of_lt_of_le LTr.out hg.size); have n5_ := Aside0.mk (rd_grown HR.out HO.out (by decide) hb hg); have n6_ := Aside0.mk ho; clear B4 B6 HJ HT LTr HR HO ho hb hg hat; have B4 := n0_; have B6 := n1_; have HJ := n2_; have HT := n3_; have LTr := n4_; have HR := n5_; have HO := n6_; clear n0_ n1_ n2_ n3_ n4_ n5_ n6_; refine hK_.out _ _ (fun _ => (blk_cell B6.out 0).trans rfl) ?_; clear hK_ K_; (try simp only [Act.put, List.setIfInBounds_toArray, List.set_cons_zero, List.set_cons_succ]))
  obtain ⟨A7, c7, rfl⟩ := Kd.R_slice HO.out
  refine zt 9 ((blk_cell B6.out 0).trans rfl) ?_
  have z1 : w9.cell? ⟨g6, 0, none⟩ = some v0 := (blk_cell B6.out 0).trans rfl
  have z2 := blk_frozen B6.out 0
  (refine wpZ_one (i := 10) (by kernel_rfl) rfl (fun K_ hK_ => ?_); go_simp; refine hK_.out _ _ (fun h => absurd rfl h) ?_; clear hK_ K_; (try simp only [Act.put, List.setIfInBounds_toArray, List.set_cons_zero, List.set_cons_succ]))
  refine wpZ_done (by kernel_rfl) ?_ _
  clear z1 z2
  obtain ⟨vk, hvk⟩ : ∃ x, x = Value.slice A7 ((List.range k).map (kind0 (o1 4 ti) bs) ++ [kind0 (o1 4 ti) bs k]).length c7 := ⟨_, rfl⟩
  rw [← hvk] at HO
  have hvk2 : Value.slice A7 (k + 1) c7 = vk := by rw [hvk]; simp
  try rw [hvk2]
  try rw [← hvk]
  clear hvk hvk2
  have n0_ := Aside0.mk (show (w9.setCell ⟨g6, 0, none⟩ vk).heap[g4]? = _ from blk_far B4.out NE46.out _); have n1_ := Aside0.mk (show (w9.setCell ⟨g6, 0, none⟩ vk).heap[g6]? = some (.cells #[vk, v1, .slice none 0 0, .slice none 0 0, .slice none 0 0] 27 (0, 0)) from blk_put B6.out 0 _ rfl); have n2_ := Aside0.mk (Kd.R_set HO.out B6.out (by decide) 0 vk); have n3_ := Aside0.mk (Kd.R_set HT.out B6.out (by decide) 0 vk); have n4_ := Aside0.mk (Kd.R_set HJ.out B6.out (by decide) 0 vk); have n5_ := Aside0.mk (rd_set HR.out NE6r.out GEg6.out 0 vk); have n6_ := Aside0.mk (show gr < (w9.setCell ⟨g6, 0, none⟩ vk).heap.size by rw [World.size_setCell]; exact LTr.out); clear B4 B6 HO HT HJ HR LTr; obtain ⟨w10, hwc_⟩ : ∃ x, x = (w9.setCell ⟨g6, 0, none⟩ vk) := ⟨_, rfl⟩; rw [← hwc_] at n0_ n1_ n2_ n3_ n4_ n5_ n6_ ⊢; clear hwc_; have B4 := n0_; have B6 := n1_; have HO := n2_; have HT := n3_; have HJ := n4_; have HR := n5_; have LTr := n6_; clear n0_ n1_ n2_ n3_ n4_ n5_ n6_
  clear HE HE2
  have HE := Aside0.mk (show 1 ≤ (bs.drop (o1 4 ti + 6 * k + 4 + 1)).length from (by have h1_ := HN.out; have h2_ := HL.out; rw [List.length_drop]; simp only [bodyN, o1, o2, o3, o4, o5] at h1_ ⊢; omega))
  go_wp2_with (first
   | (go_at_call 38; (with_reducible refine (take_1 HR.out HE.out).mono ?_); rintro e w11 ⟨ad, c8, rfl, hx0, hR1, hK1⟩; have n0_ := Aside0.mk (blk_kb (B4.out) hK1 NE4r.out); have n1_ := Aside0.mk (blk_kb (B6.out) hK1 NE6r.out); have n2_ := Aside0.mk (R_kb (HO.out) (HR.out) (by decide) hK1); have n3_ := Aside0.mk (R_kb (HJ.out) (HR.out) (by decide) hK1); have n4_ := Aside0.mk (R_kb (HT.out) (HR.out) (by decide) hK1); have n5_ := Aside0.mk (Nat.lt_of_lt_of_le LTr.out hK1.1); have n6_ := Aside0.mk hR1; clear B4 B6 HO HJ HT LTr HR hR1 hK1; have B4 := n0_; have B6 := n1_; have HO := n2_; have HJ := n3_; have HT := n4_; have LTr := n5_; have HR := n6_; clear n0_ n1_ n2_ n3_ n4_ n5_ n6_)
   | ((with_reducible refine gate_builtin (b := .append) (xs := #[.tmp 86, .tmp 92]) rfl ?_); at_builtin; refine Kd.R_append (Kd.int .i64) (w0 := w11) w.heap.size rfl (.tmp 86) (.tmp 92) 62 3 (.int .i64 0) 8 rfl Try.underlying62 info_int rfl (by decide) (by omega) u11 ((List.range k).map (kat (o1 4 ti) bs)) (wrap64 (rd (bs.drop (o1 4 ti + 6 * k + 4 + 1)) 0)) [.int .i64 (wrap64 (rd (bs.drop (o1 4 ti + 6 * k + 4 + 1)) 0))] (fun _ => True) (fun _ => False) rfl rfl rfl (fun _ h => h.elim) (fun _ _ => trivial) HT.out (Below.refl _ _) (Nat.le_of_lt (Nat.lt_of_le_of_lt HR.out.1 LTr.out)) (by simp only [List.length_map, List.length_range]; omega) ?_; intro v7 w12 ho hb hg hat; have n0_ := Aside0.mk (blk_grown B4.out hg (Kd.R_ne HT.out B4.out (by decide))); have n1_ := Aside0.mk (blk_grown B6.out hg (Kd.R_ne HT.out B6.out (by decide))); have n2_ := Aside0.mk (Kd.R_over' HO.out (Kd.R_typed HT.out) (by decide) hg); have n3_ := Aside0.mk (Kd.R_over' HJ.out (Kd.R_typed HT.out) (by decide) hg); have n4_ := Aside0.mk (Nat.lt_of_lt_of_le LTr.out hg.size); have n5_ := Aside0.mk (rd_grown HR.out HT.out (by decide) hb hg); have n6_ := Aside0.mk ho; clear B4 B6 HO HJ LTr HR HT ho hb hg hat; have B4 := n0_; have B6 := n1_; have HO := n2_; have HJ := n3_; have LTr := n4_; have HR := n5_; have HT := n6_; clear n0_ n1_ n2_ n3_ n4_ n5_ n6_))
  go_roundw
  case rel =>
   refine ⟨k + 1, vk, by omega, by go_num, ?_, ⟨?_⟩, HJ, B4, B6, ⟨?_⟩, LTr⟩
   ·
    rw [map_snoc]
    exact HO.out
   ·
    rw [map_snoc]
    exact HT.out
   have h := HR.out
   rw [List.drop_drop] at h
   rw [all_snoc]
   exact h
  case measure => simp [intOf]; omega
 have hkt : ty = k := by omega
 subst hkt
 have cl : decide ((ty : Int) < (ty : Int)) = false := decide_eq_false (by omega)
 obtain ⟨A2, c2, rfl⟩ := Kd.R_slice HO.out
 have hl2 : ((List.range ty).map (kind0 (o1 4 ti) bs)).length = ty := by simp
 rw [hl2] at HO B6
 obtain ⟨A3, c3, rfl⟩ := Kd.R_slice HT.out
 have hl3 : ((List.range ty).map (kat (o1 4 ti) bs)).length = ty := by simp
 rw [hl3] at HT ⊢
 clear hl2 hl3 hlt hk
 have HE := Aside0.mk (show ch ≤ (bs.drop (o1 4 ti + 6 * ty)).length from (by have h1_ := HN.out; have h2_ := HL.out; rw [List.length_drop]; simp only [bodyN, o1, o2, o3, o4, o5] at h1_ ⊢; omega))
 have h6 : wr.cell? ⟨g4, 6, none⟩ = some (.int .i64 ch) := (blk_cell B4.out 6).trans rfl
 go_upto_region 23 with (go_at_call 38; (with_reducible refine (take_c HR.out ch HE.out).mono ?_); rintro e w20 ⟨A4, c4, rfl, hC4, hc4, hR1, hK1⟩; have n0_ := Aside0.mk (blk_kb (B4.out) hK1 NE4r.out); have n1_ := Aside0.mk (blk_kb (B6.out) hK1 NE6r.out); have n2_ := Aside0.mk (R_kb (HO.out) (HR.out) (by decide) hK1); have n3_ := Aside0.mk (R_kb (HJ.out) (HR.out) (by decide) hK1); have n4_ := Aside0.mk (R_kb (HT.out) (HR.out) (by decide) hK1); have n5_ := Aside0.mk (Nat.lt_of_lt_of_le LTr.out hK1.1); have n6_ := Aside0.mk hR1; clear B4 B6 HO HJ HT LTr HR hR1 hK1; have B4 := n0_; have B6 := n1_; have HO := n2_; have HJ := n3_; have HT := n4_; have LTr := n5_; have HR := n6_; clear n0_ n1_ n2_ n3_ n4_ n5_ n6_)
 obtain ⟨ns, hns⟩ : ∃ x, x = dNs 4 ti ty ch bs := ⟨_, rfl⟩
 have hnl : ns.length = ch := by
  rw [hns]
  unfold dNs o2
  have h := HE.out
  rw [List.length_take]
  omega
 have HC4 := Aside0.mk (show Kd.C (Kd.int .u8) w A4 ns.length ns by rw [hnl, hns]; exact hC4)
 have HNS := Aside0.mk hns
 have HNL := Aside0.mk hnl
 have HCC := Aside0.mk hc4
 rw [List.drop_drop] at HR
 rw [← kl_zero (o1 4 ti) ty ns bs] at HO
 have hok0 : (List.range ty).all (ktrue (o1 4 ti) bs) = ((List.range ty).all (ktrue (o1 4 ti) bs) && (List.range 0).all (kname (o1 4 ti) ns bs)) := by simp
 rw [hok0] at HR
 clear hC4 hc4 hns hnl HE hok0 h6 cl
 go_wp2
 go_loopw [101] (fun i wr => ∃ (k : Nat), k ≤ ty ∧ i = .int .i64 k ∧ Kd.R k56 56 wr w.heap.size (fun _ => True) (.slice A2 ty c2) (kl (o1 4 ti) ty ns bs k) ∧ Aside0 (Kd.R (Kd.int .i64) 3 wr w.heap.size (fun _ => True) (.slice A3 ty c3) ((List.range ty).map (kat (o1 4 ti) bs))) ∧ Aside0 (Kd.R k54 54 wr w.heap.size (fun _ => True) v1 (dJ 4 ti bs)) ∧ Aside0 (wr.heap[g4]? = some (.cells #[.int .i64 v, .int .i64 ut, .int .i64 sd, .int .i64 le, .int .i64 ti, .int .i64 ty, .int .i64 ch] 35 (0, 0))) ∧ Aside0 (wr.heap[g6]? = some (.cells #[.slice A2 ty c2, v1, .slice none 0 0, .slice none 0 0, .slice none 0 0] 27 (0, 0))) ∧ Aside0 (Rd w gr (bs.drop (o1 4 ti + 6 * ty + ch)) ((List.range ty).all (ktrue (o1 4 ti) bs) && (List.range k).all (kname (o1 4 ti) ns bs)) wr) ∧ Aside0 (gr < wr.heap.size)) (fun i _ => ty - (intOf i).toNat)
 case atStart => exact ⟨0, Nat.zero_le _, rfl, HO.out, HT, HJ, B4, B6, HR, LTr⟩
 clear B4 B6 HR LTr HJ HO HT
 obtain ⟨k, hk, rfl, hO, HT, HJ, B4, B6, HR, LTr⟩ := hrel
 have HO := Aside0.mk hO
 clear hO
 by_cases hlt : k < ty
 ·
  have cl : decide ((k : Int) < (ty : Int)) = true := decide_eq_true (by omega)
  have ck0 : decide (0 ≤ (k : Int)) = true := decide_eq_true (by omega)
  obtain ⟨ada, e1, hxa⟩ := Kd.at_int (Kd.R_reads' HT.out).2.2 (k : Int) (by omega) (by rw [List.length_map, List.length_range]; omega)
  subst e1
  rw [rdm _ ty k hlt] at hxa
  simp only [Int.toNat_natCast] at hxa
  obtain ⟨g, cap, hv, _, hg0, cells, hcells⟩ := Kd.R_form HO.out (by rw [kl_len]; omega)
  rw [kl_len] at hv
  injection hv with e1 _ e3
  subst e1
  subst e3
  have HNm := Aside0.mk (octets_Name.calls A4 c4 ns (kat (o1 4 ti) bs k) (nameI ns (kat (o1 4 ti) bs k)).1 (nameI ns (kat (o1 4 ti) bs k)).2 wr.drew (Kd.C_below HC4.out (rd_drew HR.out).2.1) (by rw [HNL.out]; exact HCC.out) (name_f ns (kat (o1 4 ti) bs k)))
  rw [HNL.out] at HNm
  have HKN := Aside0.mk (show kname (o1 4 ti) ns bs k = (nameI ns (kat (o1 4 ti) bs k)).2 from rfl)
  have HKS := Aside0.mk (kl_set (o1 4 ti) ty ns bs k hlt)
  obtain ⟨nm, hnm⟩ : ∃ x, x = nameI ns (kat (o1 4 ti) bs k) := ⟨_, rfl⟩
  rw [← hnm] at HNm HKN HKS
  clear hnm
  obtain ⟨nm, nok⟩ := nm
  go_upto_region 27 with fail
  clear hxa
  refine region_Z 99 (fun w' => w'.cell? ⟨g6, 0, none⟩ = some (.slice (some ⟨g, 0, none⟩) ty c2)) (by kernel_rfl) ?_
  refine zt 0 ((blk_cell B6.out 0).trans rfl) ?_; refine zt 1 ((blk_cell B6.out 0).trans rfl) ?_; refine zt 2 ((blk_cell B6.out 0).trans rfl) ?_; refine zt 3 ((blk_cell B6.out 0).trans rfl) ?_; refine zt 4 ((blk_cell B6.out 0).trans rfl) ?_
  (refine wpZ_one (i := 5) (by kernel_rfl) rfl (fun K_ hK_ => ?_); go_simp; go_wp2_with (first | (go_at_call 40; (with_reducible refine (HNm.out).mono ?_); rintro e w7 ⟨rfl, hb⟩; have n0_ := Aside0.mk (blk_below (blk_drew B4.out) hb); have n1_ := Aside0.mk (blk_below (blk_drew B6.out) hb); have n2_ := Aside0.mk (Kd.R_below (Kd.R_drew HO.out) hb); have n3_ := Aside0.mk (Kd.R_below (Kd.R_drew HJ.out) hb); have n4_ := Aside0.mk (Kd.R_below (Kd.R_drew HT.out) hb); have n5_ := Aside0.mk ((rd_drew HR.out).keep (below_step (rd_drew HR.out).2.1 hb) (hb.block gr LTr.out)); have n6_ := Aside0.mk (Nat.lt_of_lt_of_le LTr.out hb.size); clear B4 B6 HO HJ HT HR LTr hb; have B4 := n0_; have B6 := n1_; have HO := n2_; have HJ := n3_; have HT := n4_; have HR := n5_; have LTr := n6_; clear n0_ n1_ n2_ n3_ n4_ n5_ n6_)); refine hK_.out _ _ (fun _ => (blk_cell B6.out 0).trans rfl) ?_; clear hK_ K_; (try simp only [Act.put, List.setIfInBounds_toArray, List.set_cons_zero, List.set_cons_succ]))
  refine zt 6 ((blk_cell B6.out 0).trans rfl) ?_; refine zt 7 ((blk_cell B6.out 0).trans rfl) ?_; refine zt 8 ((blk_cell B6.out 0).trans rfl) ?_
  obtain ⟨HS1, HS2, ⟨u0, hz1⟩, hz2⟩ := kind_put HO.out k hlt nm
  have HS := Aside0.mk HS1
  have HG := Aside0.mk HS2
  clear HS1 HS2
  (refine wpZ_one (i := 9) (by kernel_rfl) rfl (fun K_ hK_ => ?_); go_simp; refine hK_.out _ _ (fun _ => (blk_cell B6.out 0).trans rfl) ?_; clear hK_ K_; (try simp only [Act.put, List.setIfInBounds_toArray, List.set_cons_zero, List.set_cons_succ]))
  (refine wpZ_one (i := 10) (by kernel_rfl) rfl (fun K_ hK_ => ?_); go_simp; refine hK_.out _ _ (fun _ => (blk_cell B6.out 0).trans rfl) ?_; clear hK_ K_; (try simp only [Act.put, List.setIfInBounds_toArray, List.set_cons_zero, List.set_cons_succ]))
  have hn6 : g6 ≠ g := fun e => Kd.R_ne HO.out B6.out (by decide) (by rw [e]; simp [Value.ownBlock])
  have hn4 : g4 ≠ g := fun e => Kd.R_ne HO.out B4.out (by decide) (by rw [e]; simp [Value.ownBlock])
  obtain ⟨cells7, hcells7⟩ := Kd.R_typed HO.out g (by simp [Value.ownBlock])
  have hge := Kd.R_base HO.out g (by simp [Value.ownBlock])
  have HC7 := Aside0.mk (And.intro hcells7 hge)
  clear hcells7 hge
  (refine wpZ_one (i := 11) (by kernel_rfl) rfl (fun K_ hK_ => ?_); go_simp; refine hK_.out _ _ (fun _ => (blk_cell (blk_far B6.out hn6 _) 0).trans rfl) ?_; clear hK_ K_; (try simp only [Act.put, List.setIfInBounds_toArray, List.set_cons_zero, List.set_cons_succ]))
  (refine wpZ_one (i := 12) (by kernel_rfl) rfl (fun K_ hK_ => ?_); go_simp; refine hK_.out _ _ (fun _ => (blk_cell (blk_far B6.out hn6 _) 0).trans rfl) ?_; clear hK_ K_; (try simp only [Act.put, List.setIfInBounds_toArray, List.set_cons_zero, List.set_cons_succ]))
  refine wpZ_done (by kernel_rfl) ?_ _
  clear hz1 hz2
  obtain ⟨w8, hw8⟩ : ∃ x, x = w7.setCell ⟨g, k * 3 + 2, none⟩ (.string nm) := ⟨_, rfl⟩
  have n1_ := Aside0.mk (blk_far (p := ⟨g, k * 3 + 2, none⟩) B4.out hn4 (.string nm))
  have n2_ := Aside0.mk (blk_far (p := ⟨g, k * 3 + 2, none⟩) B6.out hn6 (.string nm))
  have n3_ := Aside0.mk (rd_grow HR.out HG.out HC7.out.1 (by decide) HC7.out.2)
  have n4_ := Aside0.mk (Kd.R_over' HT.out (Kd.R_typed HO.out) (by decide) HG.out)
  have n5_ := Aside0.mk (Kd.R_over' HJ.out (Kd.R_typed HO.out) (by decide) HG.out)
  have n6_ := Aside0.mk (Nat.lt_of_lt_of_le LTr.out HG.out.size)
  rw [← hw8] at n1_ n2_ n3_ n4_ n5_ n6_ HS ⊢
  clear hw8 B4 B6 HR HT HJ LTr HO HG HC7 hn6 hn4 hcells
  have B4 := n1_
  have B6 := n2_
  have HR := n3_
  have HT := n4_
  have HJ := n5_
  have LTr := n6_
  clear n1_ n2_ n3_ n4_ n5_ n6_
  obtain ⟨okk, hokk⟩ : ∃ x, x = ((List.range ty).all (ktrue (o1 4 ti) bs) && (List.range k).all (kname (o1 4 ti) ns bs)) := ⟨_, rfl⟩
  rw [← hokk] at HR
  have HOKK := Aside0.mk hokk
  clear hokk
  obtain ⟨q1, q2, A5, c5, hblk, q3, q4⟩ := HR.out
  have hf1 := blk_frozen hblk 1
  have hc1 : w8.cell? ⟨gr, 1, none⟩ = some (.bool okk) := (blk_cell hblk 1).trans rfl
  have HQ := Aside0.mk (And.intro q1 (And.intro q2 (And.intro q3 q4)))
  have HBK := Aside0.mk hblk
  clear q1 q2 q3 q4 hblk HR
  cases okk
  all_goals
   go_wp2
   go_roundw
   case rel =>
    obtain ⟨q1, q2, q3, q4⟩ := HQ.out
    refine ⟨k + 1, by omega, by go_num, ?_, ⟨R_setb HT.out HBK.out (by decide) 1 _⟩, ⟨R_setb HJ.out HBK.out (by decide) 1 _⟩, ⟨blk_far B4.out NE4r.out _⟩, ⟨blk_far B6.out NE6r.out _⟩, ⟨⟨q1, below_set q2 q1, A5, c5, ?_, q3, q4⟩⟩, ⟨by rw [World.size_setCell]; exact LTr.out⟩⟩
    ·
     rw [← HKS.out]
     exact R_setb HS.out HBK.out (by decide) 1 _
    rw [all_snoc, ← Bool.and_assoc, ← HOKK.out, HKN.out]
    exact blk_put HBK.out 1 _ rfl
   case measure => simp [intOf]; omega
 have hkt : ty = k := by omega
 subst hkt
 have cl : decide ((ty : Int) < (ty : Int)) = false := decide_eq_false (by omega)
 rw [kl_all, HNS.out] at HO
 rw [HNS.out] at HR
 have hoff : o1 4 ti + 6 * ty + ch = o3 4 ti ty ch + (4 + 4) * 0 := by unfold o3 o2; omega
 rw [hoff] at HR
 have HK := Aside0.mk (show Kd.R k56 56 wr w.heap.size (fun _ => True) (.slice A2 ty c2) (dK 4 ti ty ch bs) from HO.out)
 obtain ⟨v0, hv0⟩ : ∃ x, x = Value.slice A2 ty c2 := ⟨_, rfl⟩
 rw [← hv0] at HK B6
 obtain ⟨okk, hokk⟩ : ∃ x, x = ((List.range ty).all (ktrue (o1 4 ti) bs) && (List.range ty).all (kname (o1 4 ti) (dNs 4 ti ty ch bs) bs)) := ⟨_, rfl⟩
 rw [← hokk] at HR
 have HOKK := Aside0.mk hokk
 have h3 : wr.cell? ⟨g4, 3, none⟩ = some (.int .i64 le) := (blk_cell B4.out 3).trans rfl
 clear hv0 hokk hoff HO HC4 HNS HNL HCC HT hlt hk
 go_wp2
 go_loopw [130] (fun i wr => ∃ (k : Nat) (v2 : Value), k ≤ le ∧ i = .int .i64 k ∧ Kd.R k67 67 wr w.heap.size (fun _ => True) v2 ((List.range k).map (leap1 4 (o3 4 ti ty ch) bs)) ∧ Aside0 (Kd.R k56 56 wr w.heap.size (fun _ => True) v0 (dK 4 ti ty ch bs)) ∧ Aside0 (Kd.R k54 54 wr w.heap.size (fun _ => True) v1 (dJ 4 ti bs)) ∧ Aside0 (wr.heap[g4]? = some (.cells #[.int .i64 v, .int .i64 ut, .int .i64 sd, .int .i64 le, .int .i64 ti, .int .i64 ty, .int .i64 ch] 35 (0, 0))) ∧ Aside0 (wr.heap[g6]? = some (.cells #[v0, v1, v2, .slice none 0 0, .slice none 0 0] 27 (0, 0))) ∧ Aside0 (Rd w gr (bs.drop (o3 4 ti ty ch + (4 + 4) * k)) okk wr) ∧ Aside0 (gr < wr.heap.size)) (fun i _ => le - (intOf i).toNat)
 case atStart => exact ⟨0, _, Nat.zero_le _, rfl, Kd.R_nil _ _ _ _ _, HK, HJ, B4, B6, HR, LTr⟩
 clear B4 B6 HR LTr HK HJ h3 cl
 obtain ⟨k, v2, hk, rfl, hO, HK, HJ, B4, B6, HR, LTr⟩ := hrel
 have HO := Aside0.mk hO
 clear hO
 by_cases hlt : k < le
 ·
  have cl : decide ((k : Int) < (le : Int)) = true := decide_eq_true (by omega)
  have HE := Aside0.mk (show 4 ≤ (bs.drop (o3 4 ti ty ch + (4 + 4) * k)).length from (by have h1_ := HN.out; have h2_ := HL.out; rw [List.length_drop]; simp only [bodyN, o1, o2, o3, o4, o5] at h1_ ⊢; omega))
  have HE2 := Aside0.mk (show 4 ≤ ((bs.drop (o3 4 ti ty ch + (4 + 4) * k)).drop 4).length from by rw [List.drop_drop]; exact (by have h1_ := HN.out; have h2_ := HL.out; rw [List.length_drop]; simp only [bodyN, o1, o2, o3, o4, o5] at h1_ ⊢; omega))
  go_upto_region 32 with fail
  refine region_Z 11 (fun w' => w'.cell? ⟨g6, 2, none⟩ = some v2) (by kernel_rfl) ?_
  refine zt 0 ((blk_cell B6.out 2).trans rfl) ?_; refine zt 1 ((blk_cell B6.out 2).trans rfl) ?_; refine zt 2 ((blk_cell B6.out 2).trans rfl) ?_; refine zt 3 ((blk_cell B6.out 2).trans rfl) ?_; refine zt 5 ((blk_cell B6.out 2).trans rfl) ?_
  (refine wpZ_one (i := 4) (by kernel_rfl) rfl (fun K_ hK_ => ?_); go_simp; go_wp2_with (first | (go_at_call 37; (with_reducible refine (number_4 (rd_drew HR.out) HE.out).mono ?_); rintro e w7 ⟨rfl, hR1, hK1⟩; have n0_ := Aside0.mk (blk_kb (blk_drew B4.out) hK1 NE4r.out); have n1_ := Aside0.mk (blk_kb (blk_drew B6.out) hK1 NE6r.out); have n2_ := Aside0.mk (R_kb (Kd.R_drew HO.out) (rd_drew HR.out) (by decide) hK1); have n3_ := Aside0.mk (R_kb (Kd.R_drew HJ.out) (rd_drew HR.out) (by decide) hK1); have n4_ := Aside0.mk (R_kb (Kd.R_drew HK.out) (rd_drew HR.out) (by decide) hK1); have n5_ := Aside0.mk (Nat.lt_of_lt_of_le LTr.out hK1.1); have n6_ := Aside0.mk hR1; clear B4 B6 HO HJ HK LTr HR hR1 hK1; have B4 := n0_; have B6 := n1_; have HO := n2_; have HJ := n3_; have HK := n4_; have LTr := n5_; have HR := n6_; clear n0_ n1_ n2_ n3_ n4_ n5_ n6_)); refine hK_.out _ _ (fun _ => (blk_cell B6.out 2).trans rfl) ?_; clear hK_ K_; (try simp only [Act.put, List.setIfInBounds_toArray, List.set_cons_zero, List.set_cons_succ]))
  (refine wpZ_one (i := 6) (by kernel_rfl) rfl (fun K_ hK_ => ?_); go_simp; go_wp2_with (first | (go_at_call 37; (with_reducible refine (number_4 HR.out HE2.out).mono ?_); rintro e w8 ⟨rfl, hR1, hK1⟩; have n0_ := Aside0.mk (blk_kb (B4.out) hK1 NE4r.out); have n1_ := Aside0.mk (blk_kb (B6.out) hK1 NE6r.out); have n2_ := Aside0.mk (R_kb (HO.out) (HR.out) (by decide) hK1); have n3_ := Aside0.mk (R_kb (HJ.out) (HR.out) (by decide) hK1); have n4_ := Aside0.mk (R_kb (HK.out) (HR.out) (by decide) hK1); have n5_ := Aside0.mk (Nat.lt_of_lt_of_le LTr.out hK1.1); have n6_ := Aside0.mk hR1; clear B4 B6 HO HJ HK LTr HR hR1 hK1; have B4 := n0_; have B6 := n1_; have HO := n2_; have HJ := n3_; have HK := n4_; have LTr := n5_; have HR := n6_; clear n0_ n1_ n2_ n3_ n4_ n5_ n6_)); refine hK_.out _ _ (fun _ => (blk_cell B6.out 2).trans rfl) ?_; clear hK_ K_; (try simp only [Act.put, List.setIfInBounds_toArray, List.set_cons_zero, List.set_cons_succ]))
  refine zt 7 ((blk_cell B6.out 2).trans rfl) ?_
  (refine wpZ_one (i := 8) (by kernel_rfl) rfl (fun K_ hK_ => ?_); go_simp; refine hK_.out _ _ (fun _ => (blk_cell (blk_alloc B6.out _) 2).trans rfl) ?_; clear hK_ K_; (try simp only [Act.put, List.setIfInBounds_toArray, List.set_cons_zero, List.set_cons_succ]))
  simp only [List.drop_drop] at HR
  (refine wpZ_one (i := 9) (by kernel_rfl) rfl (fun K_ hK_ => ?_); refine Kd.R_append_step k67 (w0 := w8) w.heap.size rfl (.tmp 133) (.tmp 140) 24 67 (.agg #[.int .i64 0, .int .i64 0]) 16 rfl Try.underlying24 info_leap rfl (by decide) (by omega) v2 ((List.range k).map (leap1 4 (o3 4 ti ty ch) bs)) (leap1 4 (o3 4 ti ty ch) bs k) [.int .i64 (numU 4 (bs.drop (o3 4 ti ty ch + (4 + 4) * k))), .int .i64 (numU 4 (bs.drop (o3 4 ti ty ch + (4 + 4) * k + 4)))] (fun _ => True) (fun _ => False) rfl rfl (k67_mkM _ _ _ (leap1 4 (o3 4 ti ty ch) bs k)) (fun _ h => h.elim) (fun _ _ => trivial) HO.out (Below.refl _ _) (Nat.le_of_lt (Nat.lt_of_le_of_lt HR.out.1 LTr.out)) (by simp only [List.length_map, List.length_range]; omega) ?_; intro v7 w9 ho hb hg hat; have n0_ := Aside0.mk (blk_grown B4.out hg (Kd.R_ne HO.out B4.out (by decide))); have n1_ := Aside0.mk (blk_grown B6.out hg (Kd.R_ne HO.out B6.out (by decide))); have n2_ := Aside0.mk (Kd.R_over' HJ.out (Kd.R_typed HO.out) (by decide) hg); have n3_ := Aside0.mk (Kd.R_over' HK.out (Kd.R_typed HO.out) (by decide) hg); have n4_ := Aside0.mk (Nat.lt_of_lt_of_le LTr.out hg.size); have n5_ := Aside0.mk (rd_grown HR.out HO.out (by decide) hb hg); have n6_ := Aside0.mk ho; clear B4 B6 HJ HK LTr HR HO ho hb hg hat; have B4 := n0_; have B6 := n1_; have HJ := n2_; have HK := n3_; have LTr := n4_; have HR := n5_; have HO := n6_; clear n0_ n1_ n2_ n3_ n4_ n5_ n6_; refine hK_.out _ _ (fun _ => (blk_cell B6.out 2).trans rfl) ?_; clear hK_ K_; (try simp only [Act.put, List.setIfInBounds_toArray, List.set_cons_zero, List.set_cons_succ]))
  obtain ⟨A7, c7, rfl⟩ := Kd.R_slice HO.out
  refine zt 10 ((blk_cell B6.out 2).trans rfl) ?_
  have z1 : w9.cell? ⟨g6, 2, none⟩ = some v2 := (blk_cell B6.out 2).trans rfl
  have z2 := blk_frozen B6.out 2
  (refine wpZ_one (i := 11) (by kernel_rfl) rfl (fun K_ hK_ => ?_); go_simp; refine hK_.out _ _ (fun h => absurd rfl h) ?_; clear hK_ K_; (try simp only [Act.put, List.setIfInBounds_toArray, List.set_cons_zero, List.set_cons_succ]))
  refine wpZ_done (by kernel_rfl) ?_ _
  clear z1 z2
  go_wp2
  go_roundw
  case rel =>
   refine ⟨k + 1, _, by omega, by go_num, ?_, ⟨Kd.R_set HK.out B6.out (by decide) 2 _⟩, ⟨Kd.R_set HJ.out B6.out (by decide) 2 _⟩, ⟨blk_far B4.out NE46.out _⟩, ⟨blk_put B6.out 2 _ rfl⟩, ⟨?_⟩, ⟨by rw [World.size_setCell]; exact LTr.out⟩⟩
   ·
    rw [map_snoc]
    have h := Kd.R_set HO.out B6.out (by decide) 2
    first | exact h _ | (simp only [List.length_append, List.length_map, List.length_range, List.length_cons, List.length_nil] at h ⊢; exact h _)
   have h := rd_set HR.out NE6r.out GEg6.out 2
   exact (show o3 4 ti ty ch + (4 + 4) * k + 4 + 4 = o3 4 ti ty ch + (4 + 4) * (k + 1) by omega) ▸ h _
  case measure => simp [intOf]; omega
 have hkt : le = k := by omega
 subst hkt
 have cl : decide ((le : Int) < (le : Int)) = false := decide_eq_false (by omega)
 have hoff : o3 4 ti ty ch + (4 + 4) * le = o4 4 le ti ty ch := by unfold o4; rfl
 rw [hoff] at HR
 have HLp := Aside0.mk (show Kd.R k67 67 wr w.heap.size (fun _ => True) v2 (dL 4 le ti ty ch bs) from HO.out)
 clear hoff HO hlt hk
 have h2 : wr.cell? ⟨g4, 2, none⟩ = some (.int .i64 sd) := (blk_cell B4.out 2).trans rfl
 have HE := Aside0.mk (show sd ≤ (bs.drop (o4 4 le ti ty ch)).length from (by have h1_ := HN.out; have h2_ := HL.out; rw [List.length_drop]; simp only [bodyN, o1, o2, o3, o4, o5] at h1_ ⊢; omega))
 have HLE := Aside0.mk (show w.heap.size ≤ wr.heap.size from Nat.le_of_lt (Nat.lt_of_le_of_lt HR.out.1 LTr.out))
 have HSD := Aside0.mk (show sd ≤ 1000000 by omega)
 have HUT := Aside0.mk (show ut ≤ 1000000 by omega)
 have HENC := Aside0.mk (encOK_d 4 ut sd le ti ty ch bs hbd)
 go_upto_region 35 with (go_at_call 41; (with_reducible refine (marks_c HR.out LTr.out sd HE.out HSD.out).mono ?_); rintro e w21 ⟨v3, rfl, hS, hR1, hK1⟩; replace hS := (show Kd.R Kd.bool 4 w21 wr.heap.size (fun _ => True) v3 (isOne (dS 4 sd le ti ty ch bs)) from hS); obtain ⟨A8, c8, rfl⟩ := Kd.R_slice hS; have n0_ := Aside0.mk (blk_kb (B4.out) hK1 NE4r.out); have n1_ := Aside0.mk (blk_kb (B6.out) hK1 NE6r.out); have n2_ := Aside0.mk (R_kb (HK.out) (HR.out) (by decide) hK1); have n3_ := Aside0.mk (R_kb (HJ.out) (HR.out) (by decide) hK1); have n4_ := Aside0.mk (R_kb (HLp.out) (HR.out) (by decide) hK1); have n5_ := Aside0.mk (Nat.lt_of_lt_of_le LTr.out hK1.1); have n6_ := Aside0.mk hR1; clear B4 B6 HK HJ HLp LTr HR hR1 hK1; have B4 := n0_; have B6 := n1_; have HK := n2_; have HJ := n3_; have HLp := n4_; have LTr := n5_; have HR := n6_; clear n0_ n1_ n2_ n3_ n4_ n5_ n6_; have HS := Aside0.mk (Kd.R_lower hS HLE.out); clear hS; have z1 : w21.cell? ⟨g6, 3, none⟩ = some (.slice none 0 0) := (blk_cell B6.out 3).trans rfl; have z2 := blk_frozen B6.out 3)
 clear z1 z2 h2 HE HLE
 have n0_ := Aside0.mk (show (w21.setCell ⟨g6, 3, none⟩ (.slice A8 (isOne (dS 4 sd le ti ty ch bs)).length c8)).heap[g4]? = _ from blk_far B4.out NE46.out _); have n1_ := Aside0.mk (show (w21.setCell ⟨g6, 3, none⟩ (.slice A8 (isOne (dS 4 sd le ti ty ch bs)).length c8)).heap[g6]? = some (.cells #[v0, v1, v2, .slice A8 (isOne (dS 4 sd le ti ty ch bs)).length c8, .slice none 0 0] 27 (0, 0)) from blk_put B6.out 3 _ rfl); have n2_ := Aside0.mk (Kd.R_set HK.out B6.out (by decide) 3 (.slice A8 (isOne (dS 4 sd le ti ty ch bs)).length c8)); have n3_ := Aside0.mk (Kd.R_set HJ.out B6.out (by decide) 3 (.slice A8 (isOne (dS 4 sd le ti ty ch bs)).length c8)); have n4_ := Aside0.mk (Kd.R_set HLp.out B6.out (by decide) 3 (.slice A8 (isOne (dS 4 sd le ti ty ch bs)).length c8)); have n5_ := Aside0.mk (Kd.R_set HS.out B6.out (by decide) 3 (.slice A8 (isOne (dS 4 sd le ti ty ch bs)).length c8)); have n6_ := Aside0.mk (rd_set HR.out NE6r.out GEg6.out 3 (.slice A8 (isOne (dS 4 sd le ti ty ch bs)).length c8)); have n7_ := Aside0.mk (show gr < (w21.setCell ⟨g6, 3, none⟩ (.slice A8 (isOne (dS 4 sd le ti ty ch bs)).length c8)).heap.size by rw [World.size_setCell]; exact LTr.out); clear B4 B6 HK HJ HLp HS HR LTr; obtain ⟨w22, hwc_⟩ : ∃ x, x = (w21.setCell ⟨g6, 3, none⟩ (.slice A8 (isOne (dS 4 sd le ti ty ch bs)).length c8)) := ⟨_, rfl⟩; rw [← hwc_] at n0_ n1_ n2_ n3_ n4_ n5_ n6_ n7_ ⊢; clear hwc_; have B4 := n0_; have B6 := n1_; have HK := n2_; have HJ := n3_; have HLp := n4_; have HS := n5_; have HR := n6_; have LTr := n7_; clear n0_ n1_ n2_ n3_ n4_ n5_ n6_ n7_
 obtain ⟨N, hN⟩ : ∃ x, x = w22.heap.size := ⟨_, rfl⟩
 have HS2 := Aside0.mk (show Kd.R Kd.bool 4 w22 w.heap.size (fun k => k < N) (.slice A8 (isOne (dS 4 sd le ti ty ch bs)).length c8) (isOne (dS 4 sd le ti ty ch bs)) from Kd.R_mono (Kd.R_bound HS.out) (fun k hk => by rw [hN]; exact hk.2.2.1))
 have HNN := Aside0.mk hN
 clear HS hN
 rw [show o4 4 le ti ty ch = o4 4 le ti ty ch + 0 from rfl, List.drop_drop] at HR
 have h1 : w22.cell? ⟨g4, 1, none⟩ = some (.int .i64 ut) := (blk_cell B4.out 1).trans rfl
 have HR2 := Aside0.mk (show Rd w gr (bs.drop (o5 4 sd le ti ty ch)) (okk && allB (dS 4 sd le ti ty ch bs)) w22 from HR.out)
 clear HR
 have HR := HR2
 clear HR2
 have HE := Aside0.mk (show ut ≤ (bs.drop (o5 4 sd le ti ty ch)).length from (by have h1_ := HN.out; have h2_ := HL.out; rw [List.length_drop]; simp only [bodyN, o1, o2, o3, o4, o5] at h1_ ⊢; omega))
 have HLE := Aside0.mk (show w.heap.size ≤ w22.heap.size from Nat.le_of_lt (Nat.lt_of_le_of_lt HR.out.1 LTr.out))
 go_upto_region 36 with (go_at_call 41; (with_reducible refine (marks_c HR.out LTr.out ut HE.out HUT.out).mono ?_); rintro e w23 ⟨v4, rfl, hS, hR1, hK1⟩; replace hS := (show Kd.R Kd.bool 4 w23 w22.heap.size (fun _ => True) v4 (isOne (dU 4 ut sd le ti ty ch bs)) from hS); obtain ⟨A9, c9, rfl⟩ := Kd.R_slice hS; have n0_ := Aside0.mk (blk_kb (B4.out) hK1 NE4r.out); have n1_ := Aside0.mk (blk_kb (B6.out) hK1 NE6r.out); have n2_ := Aside0.mk (R_kb (HK.out) (HR.out) (by decide) hK1); have n3_ := Aside0.mk (R_kb (HJ.out) (HR.out) (by decide) hK1); have n4_ := Aside0.mk (R_kb (HLp.out) (HR.out) (by decide) hK1); have n5_ := Aside0.mk (R_kb (HS2.out) (HR.out) (by decide) hK1); have n6_ := Aside0.mk (Nat.lt_of_lt_of_le LTr.out hK1.1); have n7_ := Aside0.mk hR1; clear B4 B6 HK HJ HLp HS2 LTr HR hR1 hK1; have B4 := n0_; have B6 := n1_; have HK := n2_; have HJ := n3_; have HLp := n4_; have HS2 := n5_; have LTr := n6_; have HR := n7_; clear n0_ n1_ n2_ n3_ n4_ n5_ n6_ n7_; have HU := Aside0.mk (show Kd.R Kd.bool 4 w23 w.heap.size (fun k => N ≤ k) _ _ from Kd.R_lower (Kd.R_mono (Kd.R_bound hS) (fun k hk => by rw [HNN.out]; exact hk.2.1)) HLE.out); clear hS; have z1 : w23.cell? ⟨g6, 4, none⟩ = some (.slice none 0 0) := (blk_cell B6.out 4).trans rfl; have z2 := blk_frozen B6.out 4)
 clear z1 z2 h1 HE HLE HNN
 have n0_ := Aside0.mk (show (w23.setCell ⟨g6, 4, none⟩ (.slice A9 (isOne (dU 4 ut sd le ti ty ch bs)).length c9)).heap[g4]? = _ from blk_far B4.out NE46.out _); have n1_ := Aside0.mk (show (w23.setCell ⟨g6, 4, none⟩ (.slice A9 (isOne (dU 4 ut sd le ti ty ch bs)).length c9)).heap[g6]? = some (.cells #[v0, v1, v2, .slice A8 (isOne (dS 4 sd le ti ty ch bs)).length c8, .slice A9 (isOne (dU 4 ut sd le ti ty ch bs)).length c9] 27 (0, 0)) from blk_put B6.out 4 _ rfl); have n2_ := Aside0.mk (Kd.R_set HK.out B6.out (by decide) 4 (.slice A9 (isOne (dU 4 ut sd le ti ty ch bs)).length c9)); have n3_ := Aside0.mk (Kd.R_set HJ.out B6.out (by decide) 4 (.slice A9 (isOne (dU 4 ut sd le ti ty ch bs)).length c9)); have n4_ := Aside0.mk (Kd.R_set HLp.out B6.out (by decide) 4 (.slice A9 (isOne (dU 4 ut sd le ti ty ch bs)).length c9)); have n5_ := Aside0.mk (Kd.R_set HS2.out B6.out (by decide) 4 (.slice A9 (isOne (dU 4 ut sd le ti ty ch bs)).length c9)); have n6_ := Aside0.mk (Kd.R_set HU.out B6.out (by decide) 4 (.slice A9 (isOne (dU 4 ut sd le ti ty ch bs)).length c9)); have n7_ := Aside0.mk (rd_set HR.out NE6r.out GEg6.out 4 (.slice A9 (isOne (dU 4 ut sd le ti ty ch bs)).length c9)); have n8_ := Aside0.mk (show gr < (w23.setCell ⟨g6, 4, none⟩ (.slice A9 (isOne (dU 4 ut sd le ti ty ch bs)).length c9)).heap.size by rw [World.size_setCell]; exact LTr.out); clear B4 B6 HK HJ HLp HS2 HU HR LTr; obtain ⟨w24, hwc_⟩ : ∃ x, x = (w23.setCell ⟨g6, 4, none⟩ (.slice A9 (isOne (dU 4 ut sd le ti ty ch bs)).length c9)) := ⟨_, rfl⟩; rw [← hwc_] at n0_ n1_ n2_ n3_ n4_ n5_ n6_ n7_ n8_ ⊢; clear hwc_; have B4 := n0_; have B6 := n1_; have HK := n2_; have HJ := n3_; have HLp := n4_; have HS2 := n5_; have HU := n6_; have HR := n7_; have LTr := n8_; clear n0_ n1_ n2_ n3_ n4_ n5_ n6_ n7_ n8_
 have HRP := Aside0.mk (show Rd w gr ((bs.drop (o5 4 sd le ti ty ch)).drop ut) (dOK 4 ut sd le ti ty ch bs) w24 from by have h := HR.out; rw [HOKK.out] at h; exact h)
 clear HR HOKK cl
 obtain ⟨p, hp⟩ : ∃ x, x = dOK 4 ut sd le ti ty ch bs := ⟨_, rfl⟩
 obtain ⟨q, hq⟩ : ∃ x, x = dRight 4 v ut sd le ti ty ch bs := ⟨_, rfl⟩
 have HFF := Aside0.mk (HF.out p q hp.symm hq.symm)
 rw [← hp] at HRP
 obtain ⟨A10, c10, e10, hl10, hC10⟩ := Kd.R_reads HK.out
 obtain ⟨A11, c11, e11, hl11, hC11⟩ := Kd.R_reads HJ.out
 obtain ⟨A12, c12, e12, hl12, hC12⟩ := Kd.R_reads HLp.out
 subst e10 e11 e12
 have HCR := Aside0.mk (Stub.block_Right.calls A10 c10 (dK 4 ti ty ch bs) A11 c11 (dJ 4 ti bs) A12 c12 (dL 4 le ti ty ch bs) A8 c8 (isOne (dS 4 sd le ti ty ch bs)) A9 c9 (isOne (dU 4 ut sd le ti ty ch bs)) 4 v q w24 hC10 hl10 hC11 hl11 hC12 hl12 (Kd.R_reads' HS2.out).2.2 (Kd.R_reads' HS2.out).2.1 (Kd.R_reads' HU.out).2.2 (Kd.R_reads' HU.out).2.1 (by unfold Stub.block_Right.f; rw [if_pos HENC.out, hq]; rfl))
 clear hp hq hl10 hl11 hl12 hC10 hC11 hC12 HF HENC HSD HUT
 obtain ⟨r1, r2, A5, c5, hblk, r3, r4⟩ := HRP.out
 have hc1 : w24.cell? ⟨gr, 1, none⟩ = some (.bool p) := (blk_cell hblk 1).trans rfl
 have HBL := Aside0.mk r2
 clear r1 r2 r3 r4 hblk HRP HL HN
 have s0 : w24.cell? ⟨g6, 0, none⟩ = some (.slice A10 (dK 4 ti ty ch bs).length c10) := (blk_cell B6.out 0).trans rfl
 have s1 : w24.cell? ⟨g6, 1, none⟩ = some (.slice A11 (dJ 4 ti bs).length c11) := (blk_cell B6.out 1).trans rfl
 have s2 : w24.cell? ⟨g6, 2, none⟩ = some (.slice A12 (dL 4 le ti ty ch bs).length c12) := (blk_cell B6.out 2).trans rfl
 have s3 : w24.cell? ⟨g6, 3, none⟩ = some (.slice A8 (isOne (dS 4 sd le ti ty ch bs)).length c8) := (blk_cell B6.out 3).trans rfl
 have s4 : w24.cell? ⟨g6, 4, none⟩ = some (.slice A9 (isOne (dU 4 ut sd le ti ty ch bs)).length c9) := (blk_cell B6.out 4).trans rfl
 have y0 := blk_frozen B6.out 0
 have y1 := blk_frozen B6.out 1
 have y2 := blk_frozen B6.out 2
 have y3 := blk_frozen B6.out 3
 have y4 := blk_frozen B6.out 4
 have x0 : w24.cell? ⟨g4, 0, none⟩ = some (.int .i64 v) := (blk_cell B4.out 0).trans rfl
 cases p
 ·
  clear HCR x0
  go_wp2
  refine bodyPost_ret (results_ct rfl _ _ g6 27 _ (0, 0) _ rfl (put5_at B6.out) Try.underlying27 rfl (by kernel_rfl)) rfl ?_
  exact ⟨_, _, _, _, _, [], [], [], [], [], 4, HFF.out, rfl, Kd.R_nil _ _ _ _ _, Kd.R_nil _ _ _ _ _, Kd.R_nil _ _ _ _ _, Kd.R_nil _ _ _ _ _, Kd.R_nil _ _ _ _ _, put5_below HBL.out GEg6.out⟩
 cases q
 ·
  go_upto_region 37 with (go_at_call 16; (with_reducible refine (HCR.out).mono ?_); rintro e w25 ⟨rfl, hb⟩; have n1_ := Aside0.mk (blk_below B6.out hb); have n2_ := Aside0.mk (Kd.R_below HK.out hb); have n3_ := Aside0.mk (Kd.R_below HJ.out hb); have n4_ := Aside0.mk (Kd.R_below HLp.out hb); have n5_ := Aside0.mk (Kd.R_below HS2.out hb); have n6_ := Aside0.mk (Kd.R_below HU.out hb); have n7_ := Aside0.mk (below_step HBL.out hb); clear B6 HK HJ HLp HS2 HU HBL B4 hb; have B6 := n1_; have HK := n2_; have HJ := n3_; have HLp := n4_; have HS2 := n5_; have HU := n6_; have HBL := n7_; clear n1_ n2_ n3_ n4_ n5_ n6_ n7_; have t0 : w25.cell? ⟨g6, 0, none⟩ = some (.slice A10 (dK 4 ti ty ch bs).length c10) := (blk_cell B6.out 0).trans rfl; have u0 := blk_frozen B6.out 0; have t1 : w25.cell? ⟨g6, 1, none⟩ = some (.slice A11 (dJ 4 ti bs).length c11) := (blk_cell B6.out 1).trans rfl; have u1 := blk_frozen B6.out 1; have t2 : w25.cell? ⟨g6, 2, none⟩ = some (.slice A12 (dL 4 le ti ty ch bs).length c12) := (blk_cell B6.out 2).trans rfl; have u2 := blk_frozen B6.out 2; have t3 : w25.cell? ⟨g6, 3, none⟩ = some (.slice A8 (isOne (dS 4 sd le ti ty ch bs)).length c8) := (blk_cell B6.out 3).trans rfl; have u3 := blk_frozen B6.out 3; have t4 : w25.cell? ⟨g6, 4, none⟩ = some (.slice A9 (isOne (dU 4 ut sd le ti ty ch bs)).length c9) := (blk_cell B6.out 4).trans rfl; have u4 := blk_frozen B6.out 4)
  go_wp2
  refine bodyPost_ret (results_ct rfl _ _ g6 27 _ (0, 0) _ rfl (put5_at B6.out) Try.underlying27 rfl (by kernel_rfl)) rfl ?_
  exact ⟨_, _, _, _, _, [], [], [], [], [], 4, HFF.out, rfl, Kd.R_nil _ _ _ _ _, Kd.R_nil _ _ _ _ _, Kd.R_nil _ _ _ _ _, Kd.R_nil _ _ _ _ _, Kd.R_nil _ _ _ _ _, put5_below HBL.out GEg6.out⟩
 go_upto_region 38 with (go_at_call 16; (with_reducible refine (HCR.out).mono ?_); rintro e w25 ⟨rfl, hb⟩; have n1_ := Aside0.mk (blk_below B6.out hb); have n2_ := Aside0.mk (Kd.R_below HK.out hb); have n3_ := Aside0.mk (Kd.R_below HJ.out hb); have n4_ := Aside0.mk (Kd.R_below HLp.out hb); have n5_ := Aside0.mk (Kd.R_below HS2.out hb); have n6_ := Aside0.mk (Kd.R_below HU.out hb); have n7_ := Aside0.mk (below_step HBL.out hb); clear B6 HK HJ HLp HS2 HU HBL B4 hb; have B6 := n1_; have HK := n2_; have HJ := n3_; have HLp := n4_; have HS2 := n5_; have HU := n6_; have HBL := n7_; clear n1_ n2_ n3_ n4_ n5_ n6_ n7_; have t0 : w25.cell? ⟨g6, 0, none⟩ = some (.slice A10 (dK 4 ti ty ch bs).length c10) := (blk_cell B6.out 0).trans rfl; have u0 := blk_frozen B6.out 0; have t1 : w25.cell? ⟨g6, 1, none⟩ = some (.slice A11 (dJ 4 ti bs).length c11) := (blk_cell B6.out 1).trans rfl; have u1 := blk_frozen B6.out 1; have t2 : w25.cell? ⟨g6, 2, none⟩ = some (.slice A12 (dL 4 le ti ty ch bs).length c12) := (blk_cell B6.out 2).trans rfl; have u2 := blk_frozen B6.out 2; have t3 : w25.cell? ⟨g6, 3, none⟩ = some (.slice A8 (isOne (dS 4 sd le ti ty ch bs)).length c8) := (blk_cell B6.out 3).trans rfl; have u3 := blk_frozen B6.out 3; have t4 : w25.cell? ⟨g6, 4, none⟩ = some (.slice A9 (isOne (dU 4 ut sd le ti ty ch bs)).length c9) := (blk_cell B6.out 4).trans rfl; have u4 := blk_frozen B6.out 4)
 go_wp2
 refine bodyPost_ret (results_ct rfl _ _ g6 27 _ (0, 0) _ rfl (put5_at B6.out) Try.underlying27 rfl (by kernel_rfl)) rfl ?_
 exact ⟨_, _, _, _, _, _, _, _, _, _, 0, HFF.out, rfl, put5_R HK.out B6.out (by decide), put5_R HJ.out B6.out (by decide), put5_R HLp.out B6.out (by decide), Kd.R_mono (put5_R HS2.out B6.out (by decide)) (fun k hk e => by have h := HU.out.1 k e.symm; omega), Kd.R_mono (put5_R HU.out B6.out (by decide)) (fun k hk e => by have h := HS2.out.1 k e.symm; omega), put5_below HBL.out GEg6.out⟩
end Go.Proofs.Ythobnoknbdljgaa.Hand
end
