/- The walk of the statement HeaderReads: it returns true. -/
import Derived.Test.YtgaibighfmcgoaaEqs
import Derived.Test.YtgaibighfmcgoaaBodies
import Derived.Deep.RegionHeld3
namespace Go.Proofs.Ytgaibighfmcgoaa.Hand
open Go.RowKit Go.Proofs.YtgaibighfmcgoaaW.PrintWords Go.Proofs.YtgaibighfmcgoaaW.PrintLast Go.Proofs.YtgaibighfmcgoaaW.PrintMore Go.Proofs.Ytgaibighfmcgoaa.PHdrA
attribute [local go_sem] max2_int min2_int max_two min_two
set_option linter.unusedVariables false
set_option linter.unusedSimpArgs false
theorem reads_S {w w' : World} {g5 g7 : Nat} {r1 r2 r3 r4 r5 r6 r7 : Int} {A0 : Option Addr} {p c0 : Nat} {L : List Int} (h : Aside0 (w'.heap[g5]? = some (.cells #[.int .i64 r1, .int .i64 r2, .int .i64 r3, .int .i64 r4, .int .i64 r5, .int .i64 r6, .int .i64 r7] 23 (0, 0))) ∧ Aside0 (w'.heap[g7]? = some (.cells #[.int .i64 r1, .int .i64 r2, .int .i64 r3, .int .i64 r4, .int .i64 r5, .int .i64 r6, .int .i64 r7] 26 (0, 0))) ∧ Aside0 (Kd.C (Kd.int .u8) w' A0 p L) ∧ Aside0 (Below w.heap.size w w')) :
    w'.cell? ⟨g5, 0, none⟩ = some (.int .i64 r1) ∧ w'.cell? ⟨g5, 1, none⟩ = some (.int .i64 r2) ∧ w'.cell? ⟨g5, 2, none⟩ = some (.int .i64 r3) ∧ w'.cell? ⟨g5, 3, none⟩ = some (.int .i64 r4) ∧ w'.cell? ⟨g5, 4, none⟩ = some (.int .i64 r5) ∧ w'.cell? ⟨g5, 5, none⟩ = some (.int .i64 r6) ∧ w'.cell? ⟨g5, 6, none⟩ = some (.int .i64 r7) ∧ w'.cell? ⟨g7, 0, none⟩ = some (.int .i64 r1) ∧ w'.cell? ⟨g7, 1, none⟩ = some (.int .i64 r2) ∧ w'.cell? ⟨g7, 2, none⟩ = some (.int .i64 r3) ∧ w'.cell? ⟨g7, 3, none⟩ = some (.int .i64 r4) ∧ w'.cell? ⟨g7, 4, none⟩ = some (.int .i64 r5) ∧ w'.cell? ⟨g7, 5, none⟩ = some (.int .i64 r6) ∧ w'.cell? ⟨g7, 6, none⟩ = some (.int .i64 r7) ∧ (convert 28 9 (.slice A0 p c0)).run Try.prog w' = .ok (.string (strOfNums L)) w' ∧ Aside0 (w'.heap[g5]? = some (.cells #[.int .i64 r1, .int .i64 r2, .int .i64 r3, .int .i64 r4, .int .i64 r5, .int .i64 r6, .int .i64 r7] 23 (0, 0))) ∧ Aside0 (w'.heap[g7]? = some (.cells #[.int .i64 r1, .int .i64 r2, .int .i64 r3, .int .i64 r4, .int .i64 r5, .int .i64 r6, .int .i64 r7] 26 (0, 0))) ∧ Aside0 (Kd.C (Kd.int .u8) w' A0 p L) ∧ Aside0 (Below w.heap.size w w') := by
  obtain ⟨B, B', C, HB⟩ := h
  exact ⟨(blk_cell B.out 0).trans rfl, (blk_cell B.out 1).trans rfl, (blk_cell B.out 2).trans rfl, (blk_cell B.out 3).trans rfl, (blk_cell B.out 4).trans rfl, (blk_cell B.out 5).trans rfl, (blk_cell B.out 6).trans rfl, (blk_cell B'.out 0).trans rfl, (blk_cell B'.out 1).trans rfl, (blk_cell B'.out 2).trans rfl, (blk_cell B'.out 3).trans rfl, (blk_cell B'.out 4).trans rfl, (blk_cell B'.out 5).trans rfl, (blk_cell B'.out 6).trans rfl, Kd.C_string (P := Try.prog) Try.underlying28 Try.underlying5 Try.underlying9 C.out, B, B', C, HB⟩
set_option maxHeartbeats 2000000 in
set_option maxRecDepth 100000 in
theorem reads_walk (A0 : Option Addr) (c0 : Nat) (l0 : List Int) (w : World) (hr0 : Kd.C (Kd.int .u8) w A0 l0.length l0) (hc0 : l0.length ≤ c0) (hb0 : Bytes l0) :
    Calls Try.prog 4 #[.slice A0 l0.length c0] w fun e w' => e = .returned (.bool true) ∧ Below w.heap.size w w' := by
  have hm0 := Kd.C_max hr0
  have HB := Aside0.mk (Below.refl w.heap.size w)
  obtain ⟨p, hp, p1, p2⟩ : ∃ p : Nat, (if 100 < (l0.length : Int) then 100 else (l0.length : Int)) = p ∧ p ≤ 100 ∧ p ≤ l0.length := ⟨min l0.length 100, by split <;> omega, by omega, by omega⟩
  obtain ⟨L, hL⟩ : ∃ L, L = l0.take p := ⟨_, rfl⟩
  have HC := Aside0.mk (show Kd.C (Kd.int .u8) w A0 p (l0.take p) from readsLen (by rw [List.length_take]; omega) (Kd.C_take hr0 p2))
  have HL := Aside0.mk (show L.length = p by rw [hL, List.length_take]; omega)
  have HY := Aside0.mk (show Bytes L by rw [hL]; exact hb0.take p)
  rw [← hL] at HC
  have hpc : p ≤ c0 := by omega
  obtain ⟨r1, r2, r3, r4, r5, r6, r7, r8, hd⟩ := dec_parts L
  have HD := Aside0.mk hd
  have hcv := Kd.C_string (P := Try.prog) (c := c0) Try.underlying28 Try.underlying5 Try.underlying9 HC.out
  clear hL hr0 hd
  go_enter Try.func4, Try.ntmps4
  go_upto_region 3 with (go_at_call 9; refine (longcaselaw05_shown.calls true _ rfl).mono ?_; rintro e w2 ⟨rfl, hb⟩; have n0_ := Aside0.mk (below_step HB.out hb); clear HB; have HB := n0_; clear n0_ hb)
  clear hp hcv
  have hcv := Kd.C_string (P := Try.prog) (c := c0) Try.underlying28 Try.underlying5 Try.underlying9 (Kd.C_below HC.out HB.out)
  go_upto_region 5 with (first
      | (go_at_call 17; refine (decode_c A0 c0 p L _ r1 r2 r3 r4 r5 r6 r7 r8 HL.out HY.out (Kd.C_below HC.out HB.out) hpc HD.out).mono ?_; rintro e w3 ⟨rfl, hb⟩; have n0_ := Aside0.mk (below_step HB.out hb); clear HB; have HB := n0_; clear n0_ hb)
      | ((with_reducible refine gate_dst (N := 5) rfl ?_); refine box_event ?hg (N := 5) ?hd (cs := #[.int .i64 0, .int .i64 0, .int .i64 0, .int .i64 0, .int .i64 0, .int .i64 0, .int .i64 0]) (t := 23) ?hr ?_; (case hd => rfl); (case hg => rfl); (case hr => first | (go_simp; done) | (go_simp; rfl)); intro g5 hg w4 hbox hb; have Bg5 := Aside0.mk hbox; have GEg5 := Aside0.mk (show w.heap.size ≤ g5 by first | omega | (have h_ := below_size HB.out; omega)); clear hbox hg; have n0_ := Aside0.mk (below_step HB.out hb); clear HB; have HB := n0_; clear n0_ hb; have z0 : w4.cell? ⟨g5, 0, none⟩ = some (.int .i64 0) := (blk_cell Bg5.out 0).trans rfl; have z1 : w4.cell? ⟨g5, 1, none⟩ = some (.int .i64 0) := (blk_cell Bg5.out 1).trans rfl; have z2 : w4.cell? ⟨g5, 2, none⟩ = some (.int .i64 0) := (blk_cell Bg5.out 2).trans rfl; have z3 : w4.cell? ⟨g5, 3, none⟩ = some (.int .i64 0) := (blk_cell Bg5.out 3).trans rfl; have z4 : w4.cell? ⟨g5, 4, none⟩ = some (.int .i64 0) := (blk_cell Bg5.out 4).trans rfl; have z5 : w4.cell? ⟨g5, 5, none⟩ = some (.int .i64 0) := (blk_cell Bg5.out 5).trans rfl; have z6 : w4.cell? ⟨g5, 6, none⟩ = some (.int .i64 0) := (blk_cell Bg5.out 6).trans rfl; have y0 := blk_frozen Bg5.out 0; have y1 := blk_frozen Bg5.out 1; have y2 := blk_frozen Bg5.out 2; have y3 := blk_frozen Bg5.out 3; have y4 := blk_frozen Bg5.out 4; have y5 := blk_frozen Bg5.out 5; have y6 := blk_frozen Bg5.out 6))
  refine forget_wp (fun wc => Aside0 (wc.heap[g5]? = some (.cells #[.int .i64 r1, .int .i64 r2, .int .i64 r3, .int .i64 r4, .int .i64 r5, .int .i64 r6, .int .i64 r7] 23 (0, 0))) ∧ Aside0 (Below w.heap.size w wc)) ⟨⟨put7_at Bg5.out⟩, ⟨put7_below HB.out GEg5.out⟩⟩ ?_
  clear hcv Bg5 HB z0 y0 z1 y1 z2 y2 z3 y3 z4 y4 z5 y5 z6 y6
  rintro w5 ⟨Bg5, HB⟩
  go_upto_region 6 with (first
      | (go_at_call 18; refine (rdecode_c A0 c0 p L _ r1 r2 r3 r4 r5 r6 r7 r8 HL.out (by omega) HY.out (Kd.C_below HC.out HB.out) hpc HD.out).mono ?_; rintro e w6 ⟨rfl, hb⟩; have n0_ := Aside0.mk (blk_below Bg5.out hb); have n1_ := Aside0.mk (below_step HB.out hb); clear Bg5 HB; have Bg5 := n0_; have HB := n1_; clear n0_ n1_ hb)
      | ((with_reducible refine gate_dst (N := 7) rfl ?_); refine box_event ?hg (N := 7) ?hd (cs := #[.int .i64 0, .int .i64 0, .int .i64 0, .int .i64 0, .int .i64 0, .int .i64 0, .int .i64 0]) (t := 26) ?hr ?_; (case hd => rfl); (case hg => rfl); (case hr => first | (go_simp; done) | (go_simp; rfl)); intro g7 hg w7 hbox hb; have Bg7 := Aside0.mk hbox; have GEg7 := Aside0.mk (show w.heap.size ≤ g7 by first | omega | (have h_ := below_size HB.out; omega)); have N57 := Aside0.mk (show g5 ≠ g7 by have h_ := blk_lt Bg5.out; omega); clear hbox hg; have n0_ := Aside0.mk (blk_below Bg5.out hb); have n1_ := Aside0.mk (below_step HB.out hb); clear Bg5 HB; have Bg5 := n0_; have HB := n1_; clear n0_ n1_ hb; have z0 : w7.cell? ⟨g7, 0, none⟩ = some (.int .i64 0) := (blk_cell Bg7.out 0).trans rfl; have z1 : w7.cell? ⟨g7, 1, none⟩ = some (.int .i64 0) := (blk_cell Bg7.out 1).trans rfl; have z2 : w7.cell? ⟨g7, 2, none⟩ = some (.int .i64 0) := (blk_cell Bg7.out 2).trans rfl; have z3 : w7.cell? ⟨g7, 3, none⟩ = some (.int .i64 0) := (blk_cell Bg7.out 3).trans rfl; have z4 : w7.cell? ⟨g7, 4, none⟩ = some (.int .i64 0) := (blk_cell Bg7.out 4).trans rfl; have z5 : w7.cell? ⟨g7, 5, none⟩ = some (.int .i64 0) := (blk_cell Bg7.out 5).trans rfl; have z6 : w7.cell? ⟨g7, 6, none⟩ = some (.int .i64 0) := (blk_cell Bg7.out 6).trans rfl; have y0 := blk_frozen Bg7.out 0; have y1 := blk_frozen Bg7.out 1; have y2 := blk_frozen Bg7.out 2; have y3 := blk_frozen Bg7.out 3; have y4 := blk_frozen Bg7.out 4; have y5 := blk_frozen Bg7.out 5; have y6 := blk_frozen Bg7.out 6))
  refine forget_wp (fun wc => Aside0 (wc.heap[g5]? = some (.cells #[.int .i64 r1, .int .i64 r2, .int .i64 r3, .int .i64 r4, .int .i64 r5, .int .i64 r6, .int .i64 r7] 23 (0, 0))) ∧ Aside0 (wc.heap[g7]? = some (.cells #[.int .i64 r1, .int .i64 r2, .int .i64 r3, .int .i64 r4, .int .i64 r5, .int .i64 r6, .int .i64 r7] 26 (0, 0))) ∧ Aside0 (Below w.heap.size w wc)) ⟨⟨put7_far Bg5.out N57.out⟩, ⟨put7_at Bg7.out⟩, ⟨put7_below HB.out GEg7.out⟩⟩ ?_
  clear Bg5 Bg7 HB z0 y0 z1 y1 z2 y2 z3 y3 z4 y4 z5 y5 z6 y6
  rintro w8 ⟨Bg5, Bg7, HB⟩
  have HC8 := Aside0.mk (Kd.C_below HC.out HB.out)
  have hE := fun d w => eqR_self d w r1 r2 r3 r4 r5 r6 r7
  have hu26 := Try.underlying26
  have hu23 := Try.underlying23
  go_region_held (fun w' => w'.cell? ⟨g5, 0, none⟩ = some (.int .i64 r1) ∧ w'.cell? ⟨g5, 1, none⟩ = some (.int .i64 r2) ∧ w'.cell? ⟨g5, 2, none⟩ = some (.int .i64 r3) ∧ w'.cell? ⟨g5, 3, none⟩ = some (.int .i64 r4) ∧ w'.cell? ⟨g5, 4, none⟩ = some (.int .i64 r5) ∧ w'.cell? ⟨g5, 5, none⟩ = some (.int .i64 r6) ∧ w'.cell? ⟨g5, 6, none⟩ = some (.int .i64 r7) ∧ w'.cell? ⟨g7, 0, none⟩ = some (.int .i64 r1) ∧ w'.cell? ⟨g7, 1, none⟩ = some (.int .i64 r2) ∧ w'.cell? ⟨g7, 2, none⟩ = some (.int .i64 r3) ∧ w'.cell? ⟨g7, 3, none⟩ = some (.int .i64 r4) ∧ w'.cell? ⟨g7, 4, none⟩ = some (.int .i64 r5) ∧ w'.cell? ⟨g7, 5, none⟩ = some (.int .i64 r6) ∧ w'.cell? ⟨g7, 6, none⟩ = some (.int .i64 r7) ∧ (convert 28 9 (.slice A0 p c0)).run Try.prog w' = .ok (.string (strOfNums L)) w' ∧ Aside0 (w'.heap[g5]? = some (.cells #[.int .i64 r1, .int .i64 r2, .int .i64 r3, .int .i64 r4, .int .i64 r5, .int .i64 r6, .int .i64 r7] 23 (0, 0))) ∧ Aside0 (w'.heap[g7]? = some (.cells #[.int .i64 r1, .int .i64 r2, .int .i64 r3, .int .i64 r4, .int .i64 r5, .int .i64 r6, .int .i64 r7] 26 (0, 0))) ∧ Aside0 (Kd.C (Kd.int .u8) w' A0 p L) ∧ Aside0 (Below w.heap.size w w'))
    (first | assumption | exact reads_S ⟨⟨blk_drew Bg5.out⟩, ⟨blk_drew Bg7.out⟩, ⟨Kd.C_drew HC8.out⟩, ⟨below_drew1 HB.out⟩⟩ | exact reads_S ⟨by assumption, by assumption, by assumption, by assumption⟩)
    (first
      | (go_at_call 11; (with_reducible refine (longcaselaw05_ref.calls r1 r2 r3 r4 r5 r6 r7 r1 r2 r3 r4 r5 r6 r7 _ rfl).mono ?_); rintro e wn ⟨rfl, hb⟩; obtain ⟨_, _, _, _, _, _, _, _, _, _, _, _, _, _, _, SA_, SB_, SC_, SW_⟩ : _ ∧ _ ∧ _ ∧ _ ∧ _ ∧ _ ∧ _ ∧ _ ∧ _ ∧ _ ∧ _ ∧ _ ∧ _ ∧ _ ∧ _ ∧ Aside0 _ ∧ Aside0 _ ∧ Aside0 _ ∧ Aside0 (Below _ _ _) := (by assumption); have n0_ := Aside0.mk (blk_below SA_.out hb); have n1_ := Aside0.mk (blk_below SB_.out hb); have n2_ := Aside0.mk (Kd.C_below SC_.out hb); have n3_ := Aside0.mk (below_step SW_.out hb); clear SA_ SB_ SC_ SW_))
  all_goals
    go_wp2
    go_ret
    exact ⟨rfl, Aside0.out (by assumption)⟩
theorem reads_row (a0 : Option Addr) (len0 cap0 : Nat) (z0 : List Int) (w : World)
    (w0 : (a0 = none ∧ len0 = 0 ∧ cap0 = 0 ∧ z0 = []) ∨ ∃ x, a0 = some x ∧ len0 ≤ cap0 ∧ cap0 ≤ maxLen ∧ z0.length = cap0 ∧ (∀ i, i < z0.length → w.cell? (x.add i) = some (.int .u8 (z0.getD i 0))) ∧ ∀ n ∈ z0, (Lit.int .u8 n).wf = true) (_y0 : len0 * 1 ≤ 140737488351232) :
    Calls Try.prog 4 #[.slice a0 len0 cap0] w fun e w' => e = .returned (.bool true) ∧ Below w.heap.size w w' := by
  obtain ⟨l0, rfl, hr0, hm0, hw0, hc0⟩ := ReadsInt.ofRowC w0
  exact reads_walk a0 cap0 l0 w (Kd.C_of_reads (d := (0 : Int)) (h1 := fun _ => rfl) hr0) hc0 (bytes_of_wf hw0)
end Go.Proofs.Ytgaibighfmcgoaa.Hand
