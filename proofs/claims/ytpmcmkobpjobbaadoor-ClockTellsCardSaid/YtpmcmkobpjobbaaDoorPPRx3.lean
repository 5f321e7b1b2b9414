-- Written by a program of the session's out of the translation. Not trusted: Lean checks it.
import Derived.Test.YtpmcmkobpjobbaaDoorPPRx0
import Derived.Test.YtpmcmkobpjobbaaDoorPPRx2
namespace Go.Proofs.YtpmcmkobpjobbaaDoor.PPR
open Go.RowKit Go.Proofs.YtpmcmkobpjobbaaDoor.Hand Go.Proofs.YtpmcmkobpjobbaaDoorW.PrintWords Go.Proofs.YtpmcmkobpjobbaaDoorW.PrintLast Go.Proofs.YtpmcmkobpjobbaaDoorW.PrintMore
attribute [local go_sem] max2_int min2_int max_two min_two max_three min_three max_four min_four   -- for this text's walks alone
set_option linter.unusedVariables false
set_option linter.unusedSimpArgs false

theorem sz45 : (⟨#[45]⟩ : ByteArray).size = 1 := rfl
theorem sz32 : (⟨#[32]⟩ : ByteArray).size = 1 := rfl
theorem sz58 : (⟨#[58]⟩ : ByteArray).size = 1 := rfl
/-! ### longcaseref03_Text: function 16 -/
def longcaseref03_Text.j0 : Nat → ByteArray → Int → Int → Int → Int → Int → Int → Int → Option (ByteArray)
  | 0, _, _, _, _, _, _, _, _ => none
  | k + 1, x3, x4, x134000, x134001, x134002, x134003, x134004, x134005 => (longcaseref03_digits.f k x4 4).bind fun t134 => (if x3.size + t134.size ≤ 9223372036854775807 then (if (x3 ++ t134).size + 1 ≤ 9223372036854775807 then ((longcaseref03_digits.f k x134001 2).bind fun t135 => (if ((x3 ++ t134) ++ (⟨#[45]⟩ : ByteArray)).size + t135.size ≤ 9223372036854775807 then (if (((x3 ++ t134) ++ (⟨#[45]⟩ : ByteArray)) ++ t135).size + 1 ≤ 9223372036854775807 then ((longcaseref03_digits.f k x134002 2).bind fun t136 => (if ((((x3 ++ t134) ++ (⟨#[45]⟩ : ByteArray)) ++ t135) ++ (⟨#[45]⟩ : ByteArray)).size + t136.size ≤ 9223372036854775807 then (if (((((x3 ++ t134) ++ (⟨#[45]⟩ : ByteArray)) ++ t135) ++ (⟨#[45]⟩ : ByteArray)) ++ t136).size + 1 ≤ 9223372036854775807 then ((longcaseref03_digits.f k x134003 2).bind fun t137 => (if ((((((x3 ++ t134) ++ (⟨#[45]⟩ : ByteArray)) ++ t135) ++ (⟨#[45]⟩ : ByteArray)) ++ t136) ++ (⟨#[32]⟩ : ByteArray)).size + t137.size ≤ 9223372036854775807 then (if (((((((x3 ++ t134) ++ (⟨#[45]⟩ : ByteArray)) ++ t135) ++ (⟨#[45]⟩ : ByteArray)) ++ t136) ++ (⟨#[32]⟩ : ByteArray)) ++ t137).size + 1 ≤ 9223372036854775807 then ((longcaseref03_digits.f k x134004 2).bind fun t138 => (if ((((((((x3 ++ t134) ++ (⟨#[45]⟩ : ByteArray)) ++ t135) ++ (⟨#[45]⟩ : ByteArray)) ++ t136) ++ (⟨#[32]⟩ : ByteArray)) ++ t137) ++ (⟨#[58]⟩ : ByteArray)).size + t138.size ≤ 9223372036854775807 then (if (((((((((x3 ++ t134) ++ (⟨#[45]⟩ : ByteArray)) ++ t135) ++ (⟨#[45]⟩ : ByteArray)) ++ t136) ++ (⟨#[32]⟩ : ByteArray)) ++ t137) ++ (⟨#[58]⟩ : ByteArray)) ++ t138).size + 1 ≤ 9223372036854775807 then ((longcaseref03_digits.f k x134005 2).bind fun t139 => (if ((((((((((x3 ++ t134) ++ (⟨#[45]⟩ : ByteArray)) ++ t135) ++ (⟨#[45]⟩ : ByteArray)) ++ t136) ++ (⟨#[32]⟩ : ByteArray)) ++ t137) ++ (⟨#[58]⟩ : ByteArray)) ++ t138) ++ (⟨#[58]⟩ : ByteArray)).size + t139.size ≤ 9223372036854775807 then (some (((((((((((x3 ++ t134) ++ (⟨#[45]⟩ : ByteArray)) ++ t135) ++ (⟨#[45]⟩ : ByteArray)) ++ t136) ++ (⟨#[32]⟩ : ByteArray)) ++ t137) ++ (⟨#[58]⟩ : ByteArray)) ++ t138) ++ (⟨#[58]⟩ : ByteArray)) ++ t139)) else (none))) else (none)) else (none))) else (none)) else (none))) else (none)) else (none))) else (none)) else (none))) else (none)) else (none))
def longcaseref03_Text.f (k : Nat) (a0_0 : Int) (a0_1 : Int) (a0_2 : Int) (a0_3 : Int) (a0_4 : Int) (a0_5 : Int) : Option (ByteArray) := if a0_0 < 0 then (longcaseref03_Text.j0 k (⟨#[45]⟩ : ByteArray) (wrap64 (-a0_0)) a0_0 a0_1 a0_2 a0_3 a0_4 a0_5) else (longcaseref03_Text.j0 k (⟨#[]⟩ : ByteArray) a0_0 a0_0 a0_1 a0_2 a0_3 a0_4 a0_5)
theorem longcaseref03_Text.mono_l : ∀ k, (∀ y0 y1 y2 y3 y4 y5 y6 y7, LeO (longcaseref03_Text.j0 k y0 y1 y2 y3 y4 y5 y6 y7) (longcaseref03_Text.j0 (k + 1) y0 y1 y2 y3 y4 y5 y6 y7))
  | 0 => fun _ _ _ _ _ _ _ _ r h => by simp [longcaseref03_Text.j0] at h
  | k + 1 => by
    have ih0 := longcaseref03_Text.mono_l k
    · intro y0 y1 y2 y3 y4 y5 y6 y7
      unfold longcaseref03_Text.j0
      repeat' first
      | (with_reducible exact ih0 _ _ _ _ _ _ _ _)
      | (with_reducible exact longcaseref03_digits.mono _ _ _)
      | (with_reducible exact LeO.refl _)
      | (with_reducible exact LeO.none _)
      | (with_reducible refine LeO.ite ?_ ?_)
      | (with_reducible refine LeO.bind ?_ (fun _ => ?_))
      | exact ih0 _ _ _ _ _ _ _ _
      | exact longcaseref03_digits.mono _ _ _
      | exact LeO.none _
      | refine LeO.ite ?_ ?_
      | refine LeO.bind ?_ (fun _ => ?_)
theorem longcaseref03_Text.mono : ∀ a0 a1 a2 a3 a4 a5 k, LeO (longcaseref03_Text.f k a0 a1 a2 a3 a4 a5) (longcaseref03_Text.f (k + 1) a0 a1 a2 a3 a4 a5) := by
  intro a0 a1 a2 a3 a4 a5 k
  have ih0 := longcaseref03_Text.mono_l k
  unfold longcaseref03_Text.f
  repeat' first
      | (with_reducible exact ih0 _ _ _ _ _ _ _ _)
      | (with_reducible exact longcaseref03_digits.mono _ _ _)
      | (with_reducible exact LeO.refl _)
      | (with_reducible exact LeO.none _)
      | (with_reducible refine LeO.ite ?_ ?_)
      | (with_reducible refine LeO.bind ?_ (fun _ => ?_))
      | exact ih0 _ _ _ _ _ _ _ _
      | exact longcaseref03_digits.mono _ _ _
      | exact LeO.none _
      | refine LeO.ite ?_ ?_
      | refine LeO.bind ?_ (fun _ => ?_)
def longcaseref03_Text.T6 : Bool × List (List Nat × List Nat) := (true, [([], []), ([], []), ([1], [1]), ([0, 2], [0, 2]), ([3], [3]), ([], []), ([5], [5]), ([6, 2], [6]), ([4, 7], [4, 7]), ([8], [8]), ([], []), ([10], [10]), ([11, 7], [11]), ([9, 12], [9, 12]), ([13], [13]), ([], []), ([15], [15]), ([16, 12], [16]), ([14, 17], [14, 17]), ([18], [18]), ([], []), ([20], [20]), ([21, 17], [21]), ([19, 22], [19, 22]), ([23], [23]), ([], []), ([25], [25]), ([26, 22], [26]), ([24, 27], [24, 27]), ([28, 27, 0, 1, 2, 3, 4, 5, 6, 7, 8, 9, 10, 11, 12, 13, 14, 15, 16, 17, 18, 19, 20, 21, 22, 23, 24, 25, 26, 27, 28], [28])])
def longcaseref03_Text.B6 : List Nat := [0, 0, 2, 7, 15, 0, 32, 102, 255, 511, 0, 1024, 3302, 8191, 16383, 0, 32768, 105702, 262143, 524287, 0, 1048576, 3382502, 8388607, 16777215, 0, 33554432, 108240102, 268435455, 536870911]
theorem longcaseref03_Text.tab6 : rtab .any (opsOf Tryd.f16 6) = longcaseref03_Text.T6 := by kernel_rfl
theorem longcaseref03_Text.bits6 : waitsOk longcaseref03_Text.T6.2 longcaseref03_Text.B6 = true := by kernel_rfl
set_option maxHeartbeats 8000000 in
set_option maxRecDepth 100000 in
theorem longcaseref03_Text.calls (k : Nat) (a0_0 : Int) (a0_1 : Int) (a0_2 : Int) (a0_3 : Int) (a0_4 : Int) (a0_5 : Int) (r : ByteArray) (w : World) (h : longcaseref03_Text.f k a0_0 a0_1 a0_2 a0_3 a0_4 a0_5 = some r) : Glob w →
    Calls Tryd.prog 16 #[.agg #[.int .i64 a0_0, .int .i64 a0_1, .int .i64 a0_2, .int .i64 a0_3, .int .i64 a0_4, .int .i64 a0_5]] w fun e w' => e = .returned (.string r) ∧ Below w.heap.size w w' := by
  intro hG
  have hu23 := Tryd.underlying23
  have HB := Aside0.mk (Below.refl w.heap.size w)
  have H : (if a0_0 < 0 then (longcaseref03_Text.j0 k (⟨#[45]⟩ : ByteArray) (wrap64 (-a0_0)) a0_0 a0_1 a0_2 a0_3 a0_4 a0_5) else (longcaseref03_Text.j0 k (⟨#[]⟩ : ByteArray) a0_0 a0_0 a0_1 a0_2 a0_3 a0_4 a0_5)) = some r := h
  clear h
  have HC2 := Aside0.mk H
  clear H
  go_enter Tryd.func16, Tryd.ntmps16
  go_upto_if 8 with (first | ((with_reducible refine gate_dst (N := 1) rfl ?_); refine box_event ?hg (N := 1) ?hd (cs := #[.int .i64 a0_0, .int .i64 a0_1, .int .i64 a0_2, .int .i64 a0_3, .int .i64 a0_4, .int .i64 a0_5]) (t := 23) ?hr ?_; (case hd => rfl); (case hg => rfl); (case hr => first | (go_simp; done) | (go_simp; rfl)); intro gb133 hg w3 hbox hb; have n0_ := Aside0.mk (below_step (by repeat (first | (with_reducible first | exact HB.out | apply below_alloc | apply pw_below_drewN | apply below_drew1) | exact HB.out)) hb); have n1_ := Aside0.mk (hbox); have n2_ := Aside0.mk ((by rw [hg]; exact (below_size (by repeat (first | (with_reducible first | exact HB.out | apply below_alloc | apply pw_below_drewN | apply below_drew1) | exact HB.out))) : w.heap.size ≤ gb133)); have n3_ := Aside0.mk ((by rw [hg]; exact (below_size (by repeat (first | (with_reducible first | exact HB.out | apply below_alloc | apply pw_below_drewN | apply below_drew1) | exact HB.out))) : w.heap.size ≤ gb133)); clear HB; have HB := n0_; have BK133 := n1_; have GW133 := n2_; have GE133 := n3_; clear n0_ n1_ n2_ n3_; clear hb hbox hg; have hcz4_0 : w3.cell? ⟨gb133, 0, none⟩ = some (.int .i64 a0_0) := (blk_cell BK133.out 0).trans rfl; have hcz4_1 : w3.cell? ⟨gb133, 1, none⟩ = some (.int .i64 a0_1) := (blk_cell BK133.out 1).trans rfl; have hcz4_2 : w3.cell? ⟨gb133, 2, none⟩ = some (.int .i64 a0_2) := (blk_cell BK133.out 2).trans rfl; have hcz4_3 : w3.cell? ⟨gb133, 3, none⟩ = some (.int .i64 a0_3) := (blk_cell BK133.out 3).trans rfl; have hcz4_4 : w3.cell? ⟨gb133, 4, none⟩ = some (.int .i64 a0_4) := (blk_cell BK133.out 4).trans rfl; have hcz4_5 : w3.cell? ⟨gb133, 5, none⟩ = some (.int .i64 a0_5) := (blk_cell BK133.out 5).trans rfl; have hfz4_0 := blk_frozen BK133.out 0; have hfz4_1 := blk_frozen BK133.out 1; have hfz4_2 := blk_frozen BK133.out 2; have hfz4_3 := blk_frozen BK133.out 3; have hfz4_4 := blk_frozen BK133.out 4; have hfz4_5 := blk_frozen BK133.out 5))
  (try simp only [Act.put, List.setIfInBounds_toArray, List.set_cons_zero, List.set_cons_succ])
  go_cut [3, 4] (fun v3 v4 wc => ∃ (kq : Nat) (x3_1 : ByteArray) (x4_1 : Int), v3 = .string x3_1 ∧ v4 = .int .i64 x4_1 ∧ Aside0 (longcaseref03_Text.j0 kq x3_1 x4_1 a0_0 a0_1 a0_2 a0_3 a0_4 a0_5 = some r) ∧ Aside0 (kq ≤ k) ∧ Aside0 (wc.heap[gb133]? = some (.cells #[.int .i64 a0_0, .int .i64 a0_1, .int .i64 a0_2, .int .i64 a0_3, .int .i64 a0_4, .int .i64 a0_5] 23 (0, 0))) ∧ Aside0 (Below w.heap.size w wc))
  case first =>
    have H := HC2.out
    clear HC2
    by_cases c5 : a0_0 < 0
    · rw [if_pos c5] at H
      have c5b0 : decide (a0_0 < 0) = true := decide_eq_true c5
      clear c5
      (first | rw [c5b0] | rw [c5b1] | (simp only [i64_w, i32_w]; rw [c5b0]) | skip)
      have H' := Aside0.mk H
      clear H
      go_wp2
      go_meet
      case rel => exact ⟨_, ((⟨#[45]⟩ : ByteArray)), (wrap64 (-a0_0)), (by first | rfl | (simp; done) | (simp [*]; done)), (by first | rfl | (simp; done) | (simp [*]; done)), H', ⟨by first | omega | exact Nat.le_refl _⟩, ⟨by (with_reducible repeat (first | refine blk_drewN ?_ _ | refine blk_drew ?_ | refine blk_alloc ?_ _)); exact BK133.out⟩, ⟨by repeat (first | (with_reducible first | exact HB.out | apply below_alloc | apply pw_below_drewN | apply below_drew1 | refine below_set ?_ GE133.out) | exact HB.out)⟩⟩
    · rw [if_neg c5] at H
      have c5b0 : decide (a0_0 < 0) = false := decide_eq_false c5
      clear c5
      (first | rw [c5b0] | rw [c5b1] | (simp only [i64_w, i32_w]; rw [c5b0]) | skip)
      have H' := Aside0.mk H
      clear H
      go_wp2
      go_meet
      case rel => exact ⟨_, ((⟨#[]⟩ : ByteArray)), (a0_0), (by first | rfl | (simp; done) | (simp [*]; done)), (by first | rfl | (simp; done) | (simp [*]; done)), H', ⟨by first | omega | exact Nat.le_refl _⟩, ⟨by (with_reducible repeat (first | refine blk_drewN ?_ _ | refine blk_drew ?_ | refine blk_alloc ?_ _)); exact BK133.out⟩, ⟨by repeat (first | (with_reducible first | exact HB.out | apply below_alloc | apply pw_below_drewN | apply below_drew1 | refine below_set ?_ GE133.out) | exact HB.out)⟩⟩
  case rest =>
    clear HC2
    try clear c1
    try clear p2
    try clear c5
    try clear c5b0
    try clear hcz4_0
    try clear hcz4_1
    try clear hcz4_2
    try clear hcz4_3
    try clear hcz4_4
    try clear hcz4_5
    try clear hfz4_0
    try clear hfz4_1
    try clear hfz4_2
    try clear hfz4_3
    try clear hfz4_4
    try clear hfz4_5
    obtain ⟨kq, x3_1, x4_1, rfl, rfl, HA, HJ1, BK133, HB⟩ := hcut
    cases kq with
    | zero => exact absurd HA.out (by simp [longcaseref03_Text.j0])
    | succ kj1 =>
      have H := HA.out
      clear HA
      simp only [longcaseref03_Text.j0] at H
      replace H := Option.bind_eq_some_iff.mp H
      obtain ⟨t134, A60, H⟩ := H
      replace H : (if x3_1.size + t134.size ≤ 9223372036854775807 then (if (x3_1 ++ t134).size + 1 ≤ 9223372036854775807 then ((longcaseref03_digits.f kj1 a0_1 2).bind fun t135 => (if ((x3_1 ++ t134) ++ (⟨#[45]⟩ : ByteArray)).size + t135.size ≤ 9223372036854775807 then (if (((x3_1 ++ t134) ++ (⟨#[45]⟩ : ByteArray)) ++ t135).size + 1 ≤ 9223372036854775807 then ((longcaseref03_digits.f kj1 a0_2 2).bind fun t136 => (if ((((x3_1 ++ t134) ++ (⟨#[45]⟩ : ByteArray)) ++ t135) ++ (⟨#[45]⟩ : ByteArray)).size + t136.size ≤ 9223372036854775807 then (if (((((x3_1 ++ t134) ++ (⟨#[45]⟩ : ByteArray)) ++ t135) ++ (⟨#[45]⟩ : ByteArray)) ++ t136).size + 1 ≤ 9223372036854775807 then ((longcaseref03_digits.f kj1 a0_3 2).bind fun t137 => (if ((((((x3_1 ++ t134) ++ (⟨#[45]⟩ : ByteArray)) ++ t135) ++ (⟨#[45]⟩ : ByteArray)) ++ t136) ++ (⟨#[32]⟩ : ByteArray)).size + t137.size ≤ 9223372036854775807 then (if (((((((x3_1 ++ t134) ++ (⟨#[45]⟩ : ByteArray)) ++ t135) ++ (⟨#[45]⟩ : ByteArray)) ++ t136) ++ (⟨#[32]⟩ : ByteArray)) ++ t137).size + 1 ≤ 9223372036854775807 then ((longcaseref03_digits.f kj1 a0_4 2).bind fun t138 => (if ((((((((x3_1 ++ t134) ++ (⟨#[45]⟩ : ByteArray)) ++ t135) ++ (⟨#[45]⟩ : ByteArray)) ++ t136) ++ (⟨#[32]⟩ : ByteArray)) ++ t137) ++ (⟨#[58]⟩ : ByteArray)).size + t138.size ≤ 9223372036854775807 then (if (((((((((x3_1 ++ t134) ++ (⟨#[45]⟩ : ByteArray)) ++ t135) ++ (⟨#[45]⟩ : ByteArray)) ++ t136) ++ (⟨#[32]⟩ : ByteArray)) ++ t137) ++ (⟨#[58]⟩ : ByteArray)) ++ t138).size + 1 ≤ 9223372036854775807 then ((longcaseref03_digits.f kj1 a0_5 2).bind fun t139 => (if ((((((((((x3_1 ++ t134) ++ (⟨#[45]⟩ : ByteArray)) ++ t135) ++ (⟨#[45]⟩ : ByteArray)) ++ t136) ++ (⟨#[32]⟩ : ByteArray)) ++ t137) ++ (⟨#[58]⟩ : ByteArray)) ++ t138) ++ (⟨#[58]⟩ : ByteArray)).size + t139.size ≤ 9223372036854775807 then (some (((((((((((x3_1 ++ t134) ++ (⟨#[45]⟩ : ByteArray)) ++ t135) ++ (⟨#[45]⟩ : ByteArray)) ++ t136) ++ (⟨#[32]⟩ : ByteArray)) ++ t137) ++ (⟨#[58]⟩ : ByteArray)) ++ t138) ++ (⟨#[58]⟩ : ByteArray)) ++ t139)) else (none))) else (none)) else (none))) else (none)) else (none))) else (none)) else (none))) else (none)) else (none))) else (none)) else (none)) = some r := H
      have A6 := Aside0.mk A60
      clear A60
      by_cases c7 : x3_1.size + t134.size ≤ 9223372036854775807
      · rw [if_pos c7] at H
        have c7b0 := eq_true c7
        have c7b1 : decide (x3_1.size + t134.size ≤ 9223372036854775807) = true := decide_eq_true c7
        try have c7b2 : (9223372036854775807 < x3_1.size + t134.size) = False := eq_false (Nat.not_lt.2 c7)
        try (have c7b3 := c7b2; simp only [ByteArray.size_append, sz45, sz32, sz58] at c7b3)
        by_cases c8 : (x3_1 ++ t134).size + 1 ≤ 9223372036854775807
        · rw [if_pos c8] at H
          have c8b0 := eq_true c8
          have c8b1 : decide ((x3_1 ++ t134).size + 1 ≤ 9223372036854775807) = true := decide_eq_true c8
          try have c8b2 : (9223372036854775807 < (x3_1 ++ t134).size + 1) = False := eq_false (Nat.not_lt.2 c8)
          try (have c8b3 := c8b2; simp only [ByteArray.size_append, sz45, sz32, sz58] at c8b3)
          replace H := Option.bind_eq_some_iff.mp H
          obtain ⟨t135, A90, H⟩ := H
          replace H : (if ((x3_1 ++ t134) ++ (⟨#[45]⟩ : ByteArray)).size + t135.size ≤ 9223372036854775807 then (if (((x3_1 ++ t134) ++ (⟨#[45]⟩ : ByteArray)) ++ t135).size + 1 ≤ 9223372036854775807 then ((longcaseref03_digits.f kj1 a0_2 2).bind fun t136 => (if ((((x3_1 ++ t134) ++ (⟨#[45]⟩ : ByteArray)) ++ t135) ++ (⟨#[45]⟩ : ByteArray)).size + t136.size ≤ 9223372036854775807 then (if (((((x3_1 ++ t134) ++ (⟨#[45]⟩ : ByteArray)) ++ t135) ++ (⟨#[45]⟩ : ByteArray)) ++ t136).size + 1 ≤ 9223372036854775807 then ((longcaseref03_digits.f kj1 a0_3 2).bind fun t137 => (if ((((((x3_1 ++ t134) ++ (⟨#[45]⟩ : ByteArray)) ++ t135) ++ (⟨#[45]⟩ : ByteArray)) ++ t136) ++ (⟨#[32]⟩ : ByteArray)).size + t137.size ≤ 9223372036854775807 then (if (((((((x3_1 ++ t134) ++ (⟨#[45]⟩ : ByteArray)) ++ t135) ++ (⟨#[45]⟩ : ByteArray)) ++ t136) ++ (⟨#[32]⟩ : ByteArray)) ++ t137).size + 1 ≤ 9223372036854775807 then ((longcaseref03_digits.f kj1 a0_4 2).bind fun t138 => (if ((((((((x3_1 ++ t134) ++ (⟨#[45]⟩ : ByteArray)) ++ t135) ++ (⟨#[45]⟩ : ByteArray)) ++ t136) ++ (⟨#[32]⟩ : ByteArray)) ++ t137) ++ (⟨#[58]⟩ : ByteArray)).size + t138.size ≤ 9223372036854775807 then (if (((((((((x3_1 ++ t134) ++ (⟨#[45]⟩ : ByteArray)) ++ t135) ++ (⟨#[45]⟩ : ByteArray)) ++ t136) ++ (⟨#[32]⟩ : ByteArray)) ++ t137) ++ (⟨#[58]⟩ : ByteArray)) ++ t138).size + 1 ≤ 9223372036854775807 then ((longcaseref03_digits.f kj1 a0_5 2).bind fun t139 => (if ((((((((((x3_1 ++ t134) ++ (⟨#[45]⟩ : ByteArray)) ++ t135) ++ (⟨#[45]⟩ : ByteArray)) ++ t136) ++ (⟨#[32]⟩ : ByteArray)) ++ t137) ++ (⟨#[58]⟩ : ByteArray)) ++ t138) ++ (⟨#[58]⟩ : ByteArray)).size + t139.size ≤ 9223372036854775807 then (some (((((((((((x3_1 ++ t134) ++ (⟨#[45]⟩ : ByteArray)) ++ t135) ++ (⟨#[45]⟩ : ByteArray)) ++ t136) ++ (⟨#[32]⟩ : ByteArray)) ++ t137) ++ (⟨#[58]⟩ : ByteArray)) ++ t138) ++ (⟨#[58]⟩ : ByteArray)) ++ t139)) else (none))) else (none)) else (none))) else (none)) else (none))) else (none)) else (none))) else (none)) else (none)) = some r := H
          have A9 := Aside0.mk A90
          clear A90
          by_cases c10 : ((x3_1 ++ t134) ++ (⟨#[45]⟩ : ByteArray)).size + t135.size ≤ 9223372036854775807
          · rw [if_pos c10] at H
            have c10b0 := eq_true c10
            have c10b1 : decide (((x3_1 ++ t134) ++ (⟨#[45]⟩ : ByteArray)).size + t135.size ≤ 9223372036854775807) = true := decide_eq_true c10
            try have c10b2 : (9223372036854775807 < ((x3_1 ++ t134) ++ (⟨#[45]⟩ : ByteArray)).size + t135.size) = False := eq_false (Nat.not_lt.2 c10)
            try (have c10b3 := c10b2; simp only [ByteArray.size_append, sz45, sz32, sz58] at c10b3)
            by_cases c11 : (((x3_1 ++ t134) ++ (⟨#[45]⟩ : ByteArray)) ++ t135).size + 1 ≤ 9223372036854775807
            · rw [if_pos c11] at H
              have c11b0 := eq_true c11
              have c11b1 : decide ((((x3_1 ++ t134) ++ (⟨#[45]⟩ : ByteArray)) ++ t135).size + 1 ≤ 9223372036854775807) = true := decide_eq_true c11
              try have c11b2 : (9223372036854775807 < (((x3_1 ++ t134) ++ (⟨#[45]⟩ : ByteArray)) ++ t135).size + 1) = False := eq_false (Nat.not_lt.2 c11)
              try (have c11b3 := c11b2; simp only [ByteArray.size_append, sz45, sz32, sz58] at c11b3)
              replace H := Option.bind_eq_some_iff.mp H
              obtain ⟨t136, A120, H⟩ := H
              replace H : (if ((((x3_1 ++ t134) ++ (⟨#[45]⟩ : ByteArray)) ++ t135) ++ (⟨#[45]⟩ : ByteArray)).size + t136.size ≤ 9223372036854775807 then (if (((((x3_1 ++ t134) ++ (⟨#[45]⟩ : ByteArray)) ++ t135) ++ (⟨#[45]⟩ : ByteArray)) ++ t136).size + 1 ≤ 9223372036854775807 then ((longcaseref03_digits.f kj1 a0_3 2).bind fun t137 => (if ((((((x3_1 ++ t134) ++ (⟨#[45]⟩ : ByteArray)) ++ t135) ++ (⟨#[45]⟩ : ByteArray)) ++ t136) ++ (⟨#[32]⟩ : ByteArray)).size + t137.size ≤ 9223372036854775807 then (if (((((((x3_1 ++ t134) ++ (⟨#[45]⟩ : ByteArray)) ++ t135) ++ (⟨#[45]⟩ : ByteArray)) ++ t136) ++ (⟨#[32]⟩ : ByteArray)) ++ t137).size + 1 ≤ 9223372036854775807 then ((longcaseref03_digits.f kj1 a0_4 2).bind fun t138 => (if ((((((((x3_1 ++ t134) ++ (⟨#[45]⟩ : ByteArray)) ++ t135) ++ (⟨#[45]⟩ : ByteArray)) ++ t136) ++ (⟨#[32]⟩ : ByteArray)) ++ t137) ++ (⟨#[58]⟩ : ByteArray)).size + t138.size ≤ 9223372036854775807 then (if (((((((((x3_1 ++ t134) ++ (⟨#[45]⟩ : ByteArray)) ++ t135) ++ (⟨#[45]⟩ : ByteArray)) ++ t136) ++ (⟨#[32]⟩ : ByteArray)) ++ t137) ++ (⟨#[58]⟩ : ByteArray)) ++ t138).size + 1 ≤ 9223372036854775807 then ((longcaseref03_digits.f kj1 a0_5 2).bind fun t139 => (if ((((((((((x3_1 ++ t134) ++ (⟨#[45]⟩ : ByteArray)) ++ t135) ++ (⟨#[45]⟩ : ByteArray)) ++ t136) ++ (⟨#[32]⟩ : ByteArray)) ++ t137) ++ (⟨#[58]⟩ : ByteArray)) ++ t138) ++ (⟨#[58]⟩ : ByteArray)).size + t139.size ≤ 9223372036854775807 then (some (((((((((((x3_1 ++ t134) ++ (⟨#[45]⟩ : ByteArray)) ++ t135) ++ (⟨#[45]⟩ : ByteArray)) ++ t136) ++ (⟨#[32]⟩ : ByteArray)) ++ t137) ++ (⟨#[58]⟩ : ByteArray)) ++ t138) ++ (⟨#[58]⟩ : ByteArray)) ++ t139)) else (none))) else (none)) else (none))) else (none)) else (none))) else (none)) else (none)) = some r := H
              have A12 := Aside0.mk A120
              clear A120
              by_cases c13 : ((((x3_1 ++ t134) ++ (⟨#[45]⟩ : ByteArray)) ++ t135) ++ (⟨#[45]⟩ : ByteArray)).size + t136.size ≤ 9223372036854775807
              · rw [if_pos c13] at H
                have c13b0 := eq_true c13
                have c13b1 : decide (((((x3_1 ++ t134) ++ (⟨#[45]⟩ : ByteArray)) ++ t135) ++ (⟨#[45]⟩ : ByteArray)).size + t136.size ≤ 9223372036854775807) = true := decide_eq_true c13
                try have c13b2 : (9223372036854775807 < ((((x3_1 ++ t134) ++ (⟨#[45]⟩ : ByteArray)) ++ t135) ++ (⟨#[45]⟩ : ByteArray)).size + t136.size) = False := eq_false (Nat.not_lt.2 c13)
                try (have c13b3 := c13b2; simp only [ByteArray.size_append, sz45, sz32, sz58] at c13b3)
                by_cases c14 : (((((x3_1 ++ t134) ++ (⟨#[45]⟩ : ByteArray)) ++ t135) ++ (⟨#[45]⟩ : ByteArray)) ++ t136).size + 1 ≤ 9223372036854775807
                · rw [if_pos c14] at H
                  have c14b0 := eq_true c14
                  have c14b1 : decide ((((((x3_1 ++ t134) ++ (⟨#[45]⟩ : ByteArray)) ++ t135) ++ (⟨#[45]⟩ : ByteArray)) ++ t136).size + 1 ≤ 9223372036854775807) = true := decide_eq_true c14
                  try have c14b2 : (9223372036854775807 < (((((x3_1 ++ t134) ++ (⟨#[45]⟩ : ByteArray)) ++ t135) ++ (⟨#[45]⟩ : ByteArray)) ++ t136).size + 1) = False := eq_false (Nat.not_lt.2 c14)
                  try (have c14b3 := c14b2; simp only [ByteArray.size_append, sz45, sz32, sz58] at c14b3)
                  replace H := Option.bind_eq_some_iff.mp H
                  obtain ⟨t137, A150, H⟩ := H
                  replace H : (if ((((((x3_1 ++ t134) ++ (⟨#[45]⟩ : ByteArray)) ++ t135) ++ (⟨#[45]⟩ : ByteArray)) ++ t136) ++ (⟨#[32]⟩ : ByteArray)).size + t137.size ≤ 9223372036854775807 then (if (((((((x3_1 ++ t134) ++ (⟨#[45]⟩ : ByteArray)) ++ t135) ++ (⟨#[45]⟩ : ByteArray)) ++ t136) ++ (⟨#[32]⟩ : ByteArray)) ++ t137).size + 1 ≤ 9223372036854775807 then ((longcaseref03_digits.f kj1 a0_4 2).bind fun t138 => (if ((((((((x3_1 ++ t134) ++ (⟨#[45]⟩ : ByteArray)) ++ t135) ++ (⟨#[45]⟩ : ByteArray)) ++ t136) ++ (⟨#[32]⟩ : ByteArray)) ++ t137) ++ (⟨#[58]⟩ : ByteArray)).size + t138.size ≤ 9223372036854775807 then (if (((((((((x3_1 ++ t134) ++ (⟨#[45]⟩ : ByteArray)) ++ t135) ++ (⟨#[45]⟩ : ByteArray)) ++ t136) ++ (⟨#[32]⟩ : ByteArray)) ++ t137) ++ (⟨#[58]⟩ : ByteArray)) ++ t138).size + 1 ≤ 9223372036854775807 then ((longcaseref03_digits.f kj1 a0_5 2).bind fun t139 => (if ((((((((((x3_1 ++ t134) ++ (⟨#[45]⟩ : ByteArray)) ++ t135) ++ (⟨#[45]⟩ : ByteArray)) ++ t136) ++ (⟨#[32]⟩ : ByteArray)) ++ t137) ++ (⟨#[58]⟩ : ByteArray)) ++ t138) ++ (⟨#[58]⟩ : ByteArray)).size + t139.size ≤ 9223372036854775807 then (some (((((((((((x3_1 ++ t134) ++ (⟨#[45]⟩ : ByteArray)) ++ t135) ++ (⟨#[45]⟩ : ByteArray)) ++ t136) ++ (⟨#[32]⟩ : ByteArray)) ++ t137) ++ (⟨#[58]⟩ : ByteArray)) ++ t138) ++ (⟨#[58]⟩ : ByteArray)) ++ t139)) else (none))) else (none)) else (none))) else (none)) else (none)) = some r := H
                  have A15 := Aside0.mk A150
                  clear A150
                  by_cases c16 : ((((((x3_1 ++ t134) ++ (⟨#[45]⟩ : ByteArray)) ++ t135) ++ (⟨#[45]⟩ : ByteArray)) ++ t136) ++ (⟨#[32]⟩ : ByteArray)).size + t137.size ≤ 9223372036854775807
                  · rw [if_pos c16] at H
                    have c16b0 := eq_true c16
                    have c16b1 : decide (((((((x3_1 ++ t134) ++ (⟨#[45]⟩ : ByteArray)) ++ t135) ++ (⟨#[45]⟩ : ByteArray)) ++ t136) ++ (⟨#[32]⟩ : ByteArray)).size + t137.size ≤ 9223372036854775807) = true := decide_eq_true c16
                    try have c16b2 : (9223372036854775807 < ((((((x3_1 ++ t134) ++ (⟨#[45]⟩ : ByteArray)) ++ t135) ++ (⟨#[45]⟩ : ByteArray)) ++ t136) ++ (⟨#[32]⟩ : ByteArray)).size + t137.size) = False := eq_false (Nat.not_lt.2 c16)
                    try (have c16b3 := c16b2; simp only [ByteArray.size_append, sz45, sz32, sz58] at c16b3)
                    by_cases c17 : (((((((x3_1 ++ t134) ++ (⟨#[45]⟩ : ByteArray)) ++ t135) ++ (⟨#[45]⟩ : ByteArray)) ++ t136) ++ (⟨#[32]⟩ : ByteArray)) ++ t137).size + 1 ≤ 9223372036854775807
                    · rw [if_pos c17] at H
                      have c17b0 := eq_true c17
                      have c17b1 : decide ((((((((x3_1 ++ t134) ++ (⟨#[45]⟩ : ByteArray)) ++ t135) ++ (⟨#[45]⟩ : ByteArray)) ++ t136) ++ (⟨#[32]⟩ : ByteArray)) ++ t137).size + 1 ≤ 9223372036854775807) = true := decide_eq_true c17
                      try have c17b2 : (9223372036854775807 < (((((((x3_1 ++ t134) ++ (⟨#[45]⟩ : ByteArray)) ++ t135) ++ (⟨#[45]⟩ : ByteArray)) ++ t136) ++ (⟨#[32]⟩ : ByteArray)) ++ t137).size + 1) = False := eq_false (Nat.not_lt.2 c17)
                      try (have c17b3 := c17b2; simp only [ByteArray.size_append, sz45, sz32, sz58] at c17b3)
                      replace H := Option.bind_eq_some_iff.mp H
                      obtain ⟨t138, A180, H⟩ := H
                      replace H : (if ((((((((x3_1 ++ t134) ++ (⟨#[45]⟩ : ByteArray)) ++ t135) ++ (⟨#[45]⟩ : ByteArray)) ++ t136) ++ (⟨#[32]⟩ : ByteArray)) ++ t137) ++ (⟨#[58]⟩ : ByteArray)).size + t138.size ≤ 9223372036854775807 then (if (((((((((x3_1 ++ t134) ++ (⟨#[45]⟩ : ByteArray)) ++ t135) ++ (⟨#[45]⟩ : ByteArray)) ++ t136) ++ (⟨#[32]⟩ : ByteArray)) ++ t137) ++ (⟨#[58]⟩ : ByteArray)) ++ t138).size + 1 ≤ 9223372036854775807 then ((longcaseref03_digits.f kj1 a0_5 2).bind fun t139 => (if ((((((((((x3_1 ++ t134) ++ (⟨#[45]⟩ : ByteArray)) ++ t135) ++ (⟨#[45]⟩ : ByteArray)) ++ t136) ++ (⟨#[32]⟩ : ByteArray)) ++ t137) ++ (⟨#[58]⟩ : ByteArray)) ++ t138) ++ (⟨#[58]⟩ : ByteArray)).size + t139.size ≤ 9223372036854775807 then (some (((((((((((x3_1 ++ t134) ++ (⟨#[45]⟩ : ByteArray)) ++ t135) ++ (⟨#[45]⟩ : ByteArray)) ++ t136) ++ (⟨#[32]⟩ : ByteArray)) ++ t137) ++ (⟨#[58]⟩ : ByteArray)) ++ t138) ++ (⟨#[58]⟩ : ByteArray)) ++ t139)) else (none))) else (none)) else (none)) = some r := H
                      have A18 := Aside0.mk A180
                      clear A180
                      by_cases c19 : ((((((((x3_1 ++ t134) ++ (⟨#[45]⟩ : ByteArray)) ++ t135) ++ (⟨#[45]⟩ : ByteArray)) ++ t136) ++ (⟨#[32]⟩ : ByteArray)) ++ t137) ++ (⟨#[58]⟩ : ByteArray)).size + t138.size ≤ 9223372036854775807
                      · rw [if_pos c19] at H
                        have c19b0 := eq_true c19
                        have c19b1 : decide (((((((((x3_1 ++ t134) ++ (⟨#[45]⟩ : ByteArray)) ++ t135) ++ (⟨#[45]⟩ : ByteArray)) ++ t136) ++ (⟨#[32]⟩ : ByteArray)) ++ t137) ++ (⟨#[58]⟩ : ByteArray)).size + t138.size ≤ 9223372036854775807) = true := decide_eq_true c19
                        try have c19b2 : (9223372036854775807 < ((((((((x3_1 ++ t134) ++ (⟨#[45]⟩ : ByteArray)) ++ t135) ++ (⟨#[45]⟩ : ByteArray)) ++ t136) ++ (⟨#[32]⟩ : ByteArray)) ++ t137) ++ (⟨#[58]⟩ : ByteArray)).size + t138.size) = False := eq_false (Nat.not_lt.2 c19)
                        try (have c19b3 := c19b2; simp only [ByteArray.size_append, sz45, sz32, sz58] at c19b3)
                        by_cases c20 : (((((((((x3_1 ++ t134) ++ (⟨#[45]⟩ : ByteArray)) ++ t135) ++ (⟨#[45]⟩ : ByteArray)) ++ t136) ++ (⟨#[32]⟩ : ByteArray)) ++ t137) ++ (⟨#[58]⟩ : ByteArray)) ++ t138).size + 1 ≤ 9223372036854775807
                        · rw [if_pos c20] at H
                          have c20b0 := eq_true c20
                          have c20b1 : decide ((((((((((x3_1 ++ t134) ++ (⟨#[45]⟩ : ByteArray)) ++ t135) ++ (⟨#[45]⟩ : ByteArray)) ++ t136) ++ (⟨#[32]⟩ : ByteArray)) ++ t137) ++ (⟨#[58]⟩ : ByteArray)) ++ t138).size + 1 ≤ 9223372036854775807) = true := decide_eq_true c20
                          try have c20b2 : (9223372036854775807 < (((((((((x3_1 ++ t134) ++ (⟨#[45]⟩ : ByteArray)) ++ t135) ++ (⟨#[45]⟩ : ByteArray)) ++ t136) ++ (⟨#[32]⟩ : ByteArray)) ++ t137) ++ (⟨#[58]⟩ : ByteArray)) ++ t138).size + 1) = False := eq_false (Nat.not_lt.2 c20)
                          try (have c20b3 := c20b2; simp only [ByteArray.size_append, sz45, sz32, sz58] at c20b3)
                          replace H := Option.bind_eq_some_iff.mp H
                          obtain ⟨t139, A210, H⟩ := H
                          replace H : (if ((((((((((x3_1 ++ t134) ++ (⟨#[45]⟩ : ByteArray)) ++ t135) ++ (⟨#[45]⟩ : ByteArray)) ++ t136) ++ (⟨#[32]⟩ : ByteArray)) ++ t137) ++ (⟨#[58]⟩ : ByteArray)) ++ t138) ++ (⟨#[58]⟩ : ByteArray)).size + t139.size ≤ 9223372036854775807 then (some (((((((((((x3_1 ++ t134) ++ (⟨#[45]⟩ : ByteArray)) ++ t135) ++ (⟨#[45]⟩ : ByteArray)) ++ t136) ++ (⟨#[32]⟩ : ByteArray)) ++ t137) ++ (⟨#[58]⟩ : ByteArray)) ++ t138) ++ (⟨#[58]⟩ : ByteArray)) ++ t139)) else (none)) = some r := H
                          have A21 := Aside0.mk A210
                          clear A210
                          by_cases c22 : ((((((((((x3_1 ++ t134) ++ (⟨#[45]⟩ : ByteArray)) ++ t135) ++ (⟨#[45]⟩ : ByteArray)) ++ t136) ++ (⟨#[32]⟩ : ByteArray)) ++ t137) ++ (⟨#[58]⟩ : ByteArray)) ++ t138) ++ (⟨#[58]⟩ : ByteArray)).size + t139.size ≤ 9223372036854775807
                          · rw [if_pos c22] at H
                            have c22b0 := eq_true c22
                            have c22b1 : decide (((((((((((x3_1 ++ t134) ++ (⟨#[45]⟩ : ByteArray)) ++ t135) ++ (⟨#[45]⟩ : ByteArray)) ++ t136) ++ (⟨#[32]⟩ : ByteArray)) ++ t137) ++ (⟨#[58]⟩ : ByteArray)) ++ t138) ++ (⟨#[58]⟩ : ByteArray)).size + t139.size ≤ 9223372036854775807) = true := decide_eq_true c22
                            try have c22b2 : (9223372036854775807 < ((((((((((x3_1 ++ t134) ++ (⟨#[45]⟩ : ByteArray)) ++ t135) ++ (⟨#[45]⟩ : ByteArray)) ++ t136) ++ (⟨#[32]⟩ : ByteArray)) ++ t137) ++ (⟨#[58]⟩ : ByteArray)) ++ t138) ++ (⟨#[58]⟩ : ByteArray)).size + t139.size) = False := eq_false (Nat.not_lt.2 c22)
                            try (have c22b3 := c22b2; simp only [ByteArray.size_append, sz45, sz32, sz58] at c22b3)
                            obtain rfl := Option.some.inj H
                            try go_wp2
                            have n0_ := Aside0.mk (blk_drew BK133.out)
                            have n1_ := Aside0.mk (below_drew1 HB.out)
                            clear BK133
                            clear HB
                            have BK133 := n0_
                            have HB := n1_
                            clear n0_ n1_
                            refine start_ (n := 30) (S := fun w' => w'.cell? ⟨gb133, 0, none⟩ = some (.int .i64 a0_0) ∧ w'.cell? ⟨gb133, 1, none⟩ = some (.int .i64 a0_1) ∧ w'.cell? ⟨gb133, 2, none⟩ = some (.int .i64 a0_2) ∧ w'.cell? ⟨gb133, 3, none⟩ = some (.int .i64 a0_3) ∧ w'.cell? ⟨gb133, 4, none⟩ = some (.int .i64 a0_4) ∧ w'.cell? ⟨gb133, 5, none⟩ = some (.int .i64 a0_5)) (ds := []) #[false, false, false, false, false, false, false, false, false, false, false, false, false, false, false, false, false, false, false, false, false, false, false, false, false, false, false, false, false, false] (by kernel_rfl) rfl rfl ⟨(blk_cell BK133.out 0).trans rfl, (blk_cell BK133.out 1).trans rfl, (blk_cell BK133.out 2).trans rfl, (blk_cell BK133.out 3).trans rfl, (blk_cell BK133.out 4).trans rfl, (blk_cell BK133.out 5).trans rfl⟩ (fun hHeld => ?_); refine with_tabW longcaseref03_Text.tab6 longcaseref03_Text.bits6 (fun HT_ HW_ => ?_)
                            generalize wc.drew = w23 at BK133 HB hHeld ⊢
                            refine pure_ (i := 0) (N := some 11) (v := ?_) (a' := ?_) #[true, false, false, false, false, false, false, false, false, false, false, false, false, false, false, false, false, false, false, false, false, false, false, false, false, false, false, false, false, false] rfl rfl (any_of HT_.out (by kernel_rfl)) (fun _ _ _ h => h) (Or.inl ⟨by rfl, ?_⟩) ?_ ?_
                            rotate_left
                            · intro w'
                              go_simp
                              with_reducible rfl
                            rotate_left
                            · simp only [Act.put, List.setIfInBounds_toArray, List.set_cons_zero, List.set_cons_succ, i64_w, i32_w]
                              rfl
                            refine pure_ (i := 1) (N := some 12) (v := ?_) (a' := ?_) #[true, true, false, false, false, false, false, false, false, false, false, false, false, false, false, false, false, false, false, false, false, false, false, false, false, false, false, false, false, false] rfl rfl (any_of HT_.out (by kernel_rfl)) (fun _ _ _ h => h) (Or.inl ⟨by rfl, ?_⟩) ?_ ?_
                            rotate_left
                            · intro w'
                              go_simp
                              with_reducible rfl
                            rotate_left
                            · simp only [Act.put, List.setIfInBounds_toArray, List.set_cons_zero, List.set_cons_succ, i64_w, i32_w]
                              rfl
                            refine pure_ (i := 5) (N := some 16) (v := ?_) (a' := ?_) #[true, true, false, false, false, true, false, false, false, false, false, false, false, false, false, false, false, false, false, false, false, false, false, false, false, false, false, false, false, false] rfl rfl (any_of HT_.out (by kernel_rfl)) (fun _ _ _ h => h) (Or.inl ⟨by rfl, ?_⟩) ?_ ?_
                            rotate_left
                            · intro w'
                              go_simp
                              with_reducible rfl
                            rotate_left
                            · simp only [Act.put, List.setIfInBounds_toArray, List.set_cons_zero, List.set_cons_succ, i64_w, i32_w]
                              rfl
                            refine pure_ (i := 10) (N := some 21) (v := ?_) (a' := ?_) #[true, true, false, false, false, true, false, false, false, false, true, false, false, false, false, false, false, false, false, false, false, false, false, false, false, false, false, false, false, false] rfl rfl (any_of HT_.out (by kernel_rfl)) (fun _ _ _ h => h) (Or.inl ⟨by rfl, ?_⟩) ?_ ?_
                            rotate_left
                            · intro w'
                              go_simp
                              with_reducible rfl
                            rotate_left
                            · simp only [Act.put, List.setIfInBounds_toArray, List.set_cons_zero, List.set_cons_succ, i64_w, i32_w]
                              rfl
                            refine pure_ (i := 15) (N := some 26) (v := ?_) (a' := ?_) #[true, true, false, false, false, true, false, false, false, false, true, false, false, false, false, true, false, false, false, false, false, false, false, false, false, false, false, false, false, false] rfl rfl (any_of HT_.out (by kernel_rfl)) (fun _ _ _ h => h) (Or.inl ⟨by rfl, ?_⟩) ?_ ?_
                            rotate_left
                            · intro w'
                              go_simp
                              with_reducible rfl
                            rotate_left
                            · simp only [Act.put, List.setIfInBounds_toArray, List.set_cons_zero, List.set_cons_succ, i64_w, i32_w]
                              rfl
                            refine pure_ (i := 20) (N := some 31) (v := ?_) (a' := ?_) #[true, true, false, false, false, true, false, false, false, false, true, false, false, false, false, true, false, false, false, false, true, false, false, false, false, false, false, false, false, false] rfl rfl (any_of HT_.out (by kernel_rfl)) (fun _ _ _ h => h) (Or.inl ⟨by rfl, ?_⟩) ?_ ?_
                            rotate_left
                            · intro w'
                              go_simp
                              with_reducible rfl
                            rotate_left
                            · simp only [Act.put, List.setIfInBounds_toArray, List.set_cons_zero, List.set_cons_succ, i64_w, i32_w]
                              rfl
                            refine pure_ (i := 25) (N := some 36) (v := ?_) (a' := ?_) #[true, true, false, false, false, true, false, false, false, false, true, false, false, false, false, true, false, false, false, false, true, false, false, false, false, true, false, false, false, false] rfl rfl (any_of HT_.out (by kernel_rfl)) (fun _ _ _ h => h) (Or.inl ⟨by rfl, ?_⟩) ?_ ?_
                            rotate_left
                            · intro w'
                              go_simp
                              with_reducible rfl
                            rotate_left
                            · simp only [Act.put, List.setIfInBounds_toArray, List.set_cons_zero, List.set_cons_succ, i64_w, i32_w]
                              rfl
                            refine take_ (i := 6) (N := some 17) (v := ?_) (a' := ?_) #[true, true, false, false, false, true, true, false, false, false, true, false, false, false, false, true, false, false, false, false, true, false, false, false, false, true, false, false, false, false] rfl rfl (take_ofW HT_.out HW_.out (by kernel_rfl)) (fun _ _ _ h => h) (Or.inl ⟨by rfl, ?_⟩) hHeld ?_ ?_
                            rotate_left
                            · rintro w' ⟨s0, s1, s2, s3, s4, s5⟩
                              go_simp
                              with_reducible rfl
                            rotate_left
                            · simp only [Act.put, List.setIfInBounds_toArray, List.set_cons_zero, List.set_cons_succ, i64_w, i32_w]
                              rfl
                            refine take_ (i := 11) (N := some 22) (v := ?_) (a' := ?_) #[true, true, false, false, false, true, true, false, false, false, true, true, false, false, false, true, false, false, false, false, true, false, false, false, false, true, false, false, false, false] rfl rfl (take_ofW HT_.out HW_.out (by kernel_rfl)) (fun _ _ _ h => h) (Or.inl ⟨by rfl, ?_⟩) hHeld ?_ ?_
                            rotate_left
                            · rintro w' ⟨s0, s1, s2, s3, s4, s5⟩
                              go_simp
                              with_reducible rfl
                            rotate_left
                            · simp only [Act.put, List.setIfInBounds_toArray, List.set_cons_zero, List.set_cons_succ, i64_w, i32_w]
                              rfl
                            refine take_ (i := 16) (N := some 27) (v := ?_) (a' := ?_) #[true, true, false, false, false, true, true, false, false, false, true, true, false, false, false, true, true, false, false, false, true, false, false, false, false, true, false, false, false, false] rfl rfl (take_ofW HT_.out HW_.out (by kernel_rfl)) (fun _ _ _ h => h) (Or.inl ⟨by rfl, ?_⟩) hHeld ?_ ?_
                            rotate_left
                            · rintro w' ⟨s0, s1, s2, s3, s4, s5⟩
                              go_simp
                              with_reducible rfl
                            rotate_left
                            · simp only [Act.put, List.setIfInBounds_toArray, List.set_cons_zero, List.set_cons_succ, i64_w, i32_w]
                              rfl
                            refine take_ (i := 21) (N := some 32) (v := ?_) (a' := ?_) #[true, true, false, false, false, true, true, false, false, false, true, true, false, false, false, true, true, false, false, false, true, true, false, false, false, true, false, false, false, false] rfl rfl (take_ofW HT_.out HW_.out (by kernel_rfl)) (fun _ _ _ h => h) (Or.inl ⟨by rfl, ?_⟩) hHeld ?_ ?_
                            rotate_left
                            · rintro w' ⟨s0, s1, s2, s3, s4, s5⟩
                              go_simp
                              with_reducible rfl
                            rotate_left
                            · simp only [Act.put, List.setIfInBounds_toArray, List.set_cons_zero, List.set_cons_succ, i64_w, i32_w]
                              rfl
                            refine take_ (i := 26) (N := some 37) (v := ?_) (a' := ?_) #[true, true, false, false, false, true, true, false, false, false, true, true, false, false, false, true, true, false, false, false, true, true, false, false, false, true, true, false, false, false] rfl rfl (take_ofW HT_.out HW_.out (by kernel_rfl)) (fun _ _ _ h => h) (Or.inl ⟨by rfl, ?_⟩) hHeld ?_ ?_
                            rotate_left
                            · rintro w' ⟨s0, s1, s2, s3, s4, s5⟩
                              go_simp
                              with_reducible rfl
                            rotate_left
                            · simp only [Act.put, List.setIfInBounds_toArray, List.set_cons_zero, List.set_cons_succ, i64_w, i32_w]
                              rfl
                            refine one_ (i := 2) (N := some 13) #[true, true, true, false, false, true, true, false, false, false, true, true, false, false, false, true, true, false, false, false, true, true, false, false, false, true, true, false, false, false] rfl rfl (one_of HT_.out (by kernel_rfl)) (by decide) (fun K hK => ?_)
                            refine goes_ Tryd.func29 (by kernel_rfl) rfl #[.int .i64 x4_1, .int .i64 4] (by rfl) rfl rfl (by (try simp only [List.map_toArray, List.map_cons, List.map_nil]); first | done | rfl | (simp only [List.length_drop, List.length_take]; rfl)) ?_
                            with_reducible refine (longcaseref03_digits.calls kj1 x4_1 4 t134 _ A6.out (by first | exact hG | exact hG.drewN _ | exact (hG.drewN _).drewN _ | exact hG.below HB.out | exact hG.below (by repeat (first | (with_reducible first | exact HB.out | apply below_alloc | apply pw_below_drewN | apply below_drew1 | refine below_set ?_ (Aside0.out (by assumption))) | exact HB.out)))).mono ?_
                            rintro e w24 ⟨rfl, hb⟩
                            refine ⟨_, rfl, ?_⟩
                            have n0_ := Aside0.mk (blk_below (g := gb133) (o := .cells #[.int .i64 a0_0, .int .i64 a0_1, .int .i64 a0_2, .int .i64 a0_3, .int .i64 a0_4, .int .i64 a0_5] 23 (0, 0)) (by (with_reducible repeat (first | refine blk_drewN ?_ _ | refine blk_drew ?_ | refine blk_alloc ?_ _)); exact BK133.out) hb)
                            have n1_ := Aside0.mk (below_step (by repeat (first | (with_reducible first | exact HB.out | apply below_alloc | apply pw_below_drewN | apply below_drew1 | refine below_set ?_ GE133.out) | exact HB.out)) hb)
                            clear BK133
                            clear HB
                            have BK133 := n0_
                            have HB := n1_
                            clear n0_ n1_
                            (try clear hb)
                            (try clear hb2)
                            (try clear hk)
                            (try clear hi)
                            refine hK.out _ _ ⟨(blk_cell BK133.out 0).trans rfl, (blk_cell BK133.out 1).trans rfl, (blk_cell BK133.out 2).trans rfl, (blk_cell BK133.out 3).trans rfl, (blk_cell BK133.out 4).trans rfl, (blk_cell BK133.out 5).trans rfl⟩ (fun hHeld => ?_)
                            clear hK K
                            refine norm_ (a' := ?_) ?_ ?_
                            rotate_left
                            · show Act.put _ (some 13) _ = _
                              simp only [Act.put, List.setIfInBounds_toArray, List.set_cons_zero, List.set_cons_succ, i64_w, i32_w]
                              rfl
                            refine pure_ (i := 3) (N := some 14) (v := ?_) (a' := ?_) #[true, true, true, true, false, true, true, false, false, false, true, true, false, false, false, true, true, false, false, false, true, true, false, false, false, true, true, false, false, false] rfl rfl (any_of HT_.out (by kernel_rfl)) (fun _ _ _ h => h) (Or.inl ⟨by rfl, ?_⟩) ?_ ?_
                            rotate_left
                            · intro w'
                              go_simp
                              with_reducible rfl
                            rotate_left
                            · simp only [Act.put, List.setIfInBounds_toArray, List.set_cons_zero, List.set_cons_succ, i64_w, i32_w]
                              rfl
                            refine pure_ (i := 4) (N := some 15) (v := ?_) (a' := ?_) #[true, true, true, true, true, true, true, false, false, false, true, true, false, false, false, true, true, false, false, false, true, true, false, false, false, true, true, false, false, false] rfl rfl (any_of HT_.out (by kernel_rfl)) (fun _ _ _ h => h) (Or.inl ⟨by rfl, ?_⟩) ?_ ?_
                            rotate_left
                            · intro w'
                              go_simp
                              with_reducible rfl
                            rotate_left
                            · simp only [Act.put, List.setIfInBounds_toArray, List.set_cons_zero, List.set_cons_succ, i64_w, i32_w]
                              rfl
                            refine one_ (i := 7) (N := some 18) #[true, true, true, true, true, true, true, true, false, false, true, true, false, false, false, true, true, false, false, false, true, true, false, false, false, true, true, false, false, false] rfl rfl (one_of HT_.out (by kernel_rfl)) (by decide) (fun K hK => ?_)
                            refine goes_ Tryd.func29 (by kernel_rfl) rfl #[.int .i64 a0_1, .int .i64 2] (by rfl) rfl rfl (by (try simp only [List.map_toArray, List.map_cons, List.map_nil]); first | done | rfl | (simp only [List.length_drop, List.length_take]; rfl)) ?_
                            with_reducible refine (longcaseref03_digits.calls kj1 a0_1 2 t135 _ A9.out (by first | exact hG | exact hG.drewN _ | exact (hG.drewN _).drewN _ | exact hG.below HB.out | exact hG.below (by repeat (first | (with_reducible first | exact HB.out | apply below_alloc | apply pw_below_drewN | apply below_drew1 | refine below_set ?_ (Aside0.out (by assumption))) | exact HB.out)))).mono ?_
                            rintro e w25 ⟨rfl, hb⟩
                            refine ⟨_, rfl, ?_⟩
                            have n0_ := Aside0.mk (blk_below (g := gb133) (o := .cells #[.int .i64 a0_0, .int .i64 a0_1, .int .i64 a0_2, .int .i64 a0_3, .int .i64 a0_4, .int .i64 a0_5] 23 (0, 0)) (by (with_reducible repeat (first | refine blk_drewN ?_ _ | refine blk_drew ?_ | refine blk_alloc ?_ _)); exact BK133.out) hb)
                            have n1_ := Aside0.mk (below_step (by repeat (first | (with_reducible first | exact HB.out | apply below_alloc | apply pw_below_drewN | apply below_drew1 | refine below_set ?_ GE133.out) | exact HB.out)) hb)
                            clear BK133
                            clear HB
                            have BK133 := n0_
                            have HB := n1_
                            clear n0_ n1_
                            (try clear hb)
                            (try clear hb2)
                            (try clear hk)
                            (try clear hi)
                            refine hK.out _ _ ⟨(blk_cell BK133.out 0).trans rfl, (blk_cell BK133.out 1).trans rfl, (blk_cell BK133.out 2).trans rfl, (blk_cell BK133.out 3).trans rfl, (blk_cell BK133.out 4).trans rfl, (blk_cell BK133.out 5).trans rfl⟩ (fun hHeld => ?_)
                            clear hK K
                            refine norm_ (a' := ?_) ?_ ?_
                            rotate_left
                            · show Act.put _ (some 18) _ = _
                              simp only [Act.put, List.setIfInBounds_toArray, List.set_cons_zero, List.set_cons_succ, i64_w, i32_w]
                              rfl
                            refine pure_ (i := 8) (N := some 19) (v := ?_) (a' := ?_) #[true, true, true, true, true, true, true, true, true, false, true, true, false, false, false, true, true, false, false, false, true, true, false, false, false, true, true, false, false, false] rfl rfl (any_of HT_.out (by kernel_rfl)) (fun _ _ _ h => h) (Or.inl ⟨by rfl, ?_⟩) ?_ ?_
                            rotate_left
                            · intro w'
                              go_simp
                              with_reducible rfl
                            rotate_left
                            · simp only [Act.put, List.setIfInBounds_toArray, List.set_cons_zero, List.set_cons_succ, i64_w, i32_w]
                              rfl
                            refine pure_ (i := 9) (N := some 20) (v := ?_) (a' := ?_) #[true, true, true, true, true, true, true, true, true, true, true, true, false, false, false, true, true, false, false, false, true, true, false, false, false, true, true, false, false, false] rfl rfl (any_of HT_.out (by kernel_rfl)) (fun _ _ _ h => h) (Or.inl ⟨by rfl, ?_⟩) ?_ ?_
                            rotate_left
                            · intro w'
                              go_simp
                              with_reducible rfl
                            rotate_left
                            · simp only [Act.put, List.setIfInBounds_toArray, List.set_cons_zero, List.set_cons_succ, i64_w, i32_w]
                              rfl
                            refine one_ (i := 12) (N := some 23) #[true, true, true, true, true, true, true, true, true, true, true, true, true, false, false, true, true, false, false, false, true, true, false, false, false, true, true, false, false, false] rfl rfl (one_of HT_.out (by kernel_rfl)) (by decide) (fun K hK => ?_)
                            refine goes_ Tryd.func29 (by kernel_rfl) rfl #[.int .i64 a0_2, .int .i64 2] (by rfl) rfl rfl (by (try simp only [List.map_toArray, List.map_cons, List.map_nil]); first | done | rfl | (simp only [List.length_drop, List.length_take]; rfl)) ?_
                            with_reducible refine (longcaseref03_digits.calls kj1 a0_2 2 t136 _ A12.out (by first | exact hG | exact hG.drewN _ | exact (hG.drewN _).drewN _ | exact hG.below HB.out | exact hG.below (by repeat (first | (with_reducible first | exact HB.out | apply below_alloc | apply pw_below_drewN | apply below_drew1 | refine below_set ?_ (Aside0.out (by assumption))) | exact HB.out)))).mono ?_
                            rintro e w26 ⟨rfl, hb⟩
                            refine ⟨_, rfl, ?_⟩
                            have n0_ := Aside0.mk (blk_below (g := gb133) (o := .cells #[.int .i64 a0_0, .int .i64 a0_1, .int .i64 a0_2, .int .i64 a0_3, .int .i64 a0_4, .int .i64 a0_5] 23 (0, 0)) (by (with_reducible repeat (first | refine blk_drewN ?_ _ | refine blk_drew ?_ | refine blk_alloc ?_ _)); exact BK133.out) hb)
                            have n1_ := Aside0.mk (below_step (by repeat (first | (with_reducible first | exact HB.out | apply below_alloc | apply pw_below_drewN | apply below_drew1 | refine below_set ?_ GE133.out) | exact HB.out)) hb)
                            clear BK133
                            clear HB
                            have BK133 := n0_
                            have HB := n1_
                            clear n0_ n1_
                            (try clear hb)
                            (try clear hb2)
                            (try clear hk)
                            (try clear hi)
                            refine hK.out _ _ ⟨(blk_cell BK133.out 0).trans rfl, (blk_cell BK133.out 1).trans rfl, (blk_cell BK133.out 2).trans rfl, (blk_cell BK133.out 3).trans rfl, (blk_cell BK133.out 4).trans rfl, (blk_cell BK133.out 5).trans rfl⟩ (fun hHeld => ?_)
                            clear hK K
                            refine norm_ (a' := ?_) ?_ ?_
                            rotate_left
                            · show Act.put _ (some 23) _ = _
                              simp only [Act.put, List.setIfInBounds_toArray, List.set_cons_zero, List.set_cons_succ, i64_w, i32_w]
                              rfl
                            refine pure_ (i := 13) (N := some 24) (v := ?_) (a' := ?_) #[true, true, true, true, true, true, true, true, true, true, true, true, true, true, false, true, true, false, false, false, true, true, false, false, false, true, true, false, false, false] rfl rfl (any_of HT_.out (by kernel_rfl)) (fun _ _ _ h => h) (Or.inl ⟨by rfl, ?_⟩) ?_ ?_
                            rotate_left
                            · intro w'
                              go_simp
                              with_reducible rfl
                            rotate_left
                            · simp only [Act.put, List.setIfInBounds_toArray, List.set_cons_zero, List.set_cons_succ, i64_w, i32_w]
                              rfl
                            refine pure_ (i := 14) (N := some 25) (v := ?_) (a' := ?_) #[true, true, true, true, true, true, true, true, true, true, true, true, true, true, true, true, true, false, false, false, true, true, false, false, false, true, true, false, false, false] rfl rfl (any_of HT_.out (by kernel_rfl)) (fun _ _ _ h => h) (Or.inl ⟨by rfl, ?_⟩) ?_ ?_
                            rotate_left
                            · intro w'
                              go_simp
                              with_reducible rfl
                            rotate_left
                            · simp only [Act.put, List.setIfInBounds_toArray, List.set_cons_zero, List.set_cons_succ, i64_w, i32_w]
                              rfl
                            refine one_ (i := 17) (N := some 28) #[true, true, true, true, true, true, true, true, true, true, true, true, true, true, true, true, true, true, false, false, true, true, false, false, false, true, true, false, false, false] rfl rfl (one_of HT_.out (by kernel_rfl)) (by decide) (fun K hK => ?_)
                            refine goes_ Tryd.func29 (by kernel_rfl) rfl #[.int .i64 a0_3, .int .i64 2] (by rfl) rfl rfl (by (try simp only [List.map_toArray, List.map_cons, List.map_nil]); first | done | rfl | (simp only [List.length_drop, List.length_take]; rfl)) ?_
                            with_reducible refine (longcaseref03_digits.calls kj1 a0_3 2 t137 _ A15.out (by first | exact hG | exact hG.drewN _ | exact (hG.drewN _).drewN _ | exact hG.below HB.out | exact hG.below (by repeat (first | (with_reducible first | exact HB.out | apply below_alloc | apply pw_below_drewN | apply below_drew1 | refine below_set ?_ (Aside0.out (by assumption))) | exact HB.out)))).mono ?_
                            rintro e w27 ⟨rfl, hb⟩
                            refine ⟨_, rfl, ?_⟩
                            have n0_ := Aside0.mk (blk_below (g := gb133) (o := .cells #[.int .i64 a0_0, .int .i64 a0_1, .int .i64 a0_2, .int .i64 a0_3, .int .i64 a0_4, .int .i64 a0_5] 23 (0, 0)) (by (with_reducible repeat (first | refine blk_drewN ?_ _ | refine blk_drew ?_ | refine blk_alloc ?_ _)); exact BK133.out) hb)
                            have n1_ := Aside0.mk (below_step (by repeat (first | (with_reducible first | exact HB.out | apply below_alloc | apply pw_below_drewN | apply below_drew1 | refine below_set ?_ GE133.out) | exact HB.out)) hb)
                            clear BK133
                            clear HB
                            have BK133 := n0_
                            have HB := n1_
                            clear n0_ n1_
                            (try clear hb)
                            (try clear hb2)
                            (try clear hk)
                            (try clear hi)
                            refine hK.out _ _ ⟨(blk_cell BK133.out 0).trans rfl, (blk_cell BK133.out 1).trans rfl, (blk_cell BK133.out 2).trans rfl, (blk_cell BK133.out 3).trans rfl, (blk_cell BK133.out 4).trans rfl, (blk_cell BK133.out 5).trans rfl⟩ (fun hHeld => ?_)
                            clear hK K
                            refine norm_ (a' := ?_) ?_ ?_
                            rotate_left
                            · show Act.put _ (some 28) _ = _
                              simp only [Act.put, List.setIfInBounds_toArray, List.set_cons_zero, List.set_cons_succ, i64_w, i32_w]
                              rfl
                            refine pure_ (i := 18) (N := some 29) (v := ?_) (a' := ?_) #[true, true, true, true, true, true, true, true, true, true, true, true, true, true, true, true, true, true, true, false, true, true, false, false, false, true, true, false, false, false] rfl rfl (any_of HT_.out (by kernel_rfl)) (fun _ _ _ h => h) (Or.inl ⟨by rfl, ?_⟩) ?_ ?_
                            rotate_left
                            · intro w'
                              go_simp
                              with_reducible rfl
                            rotate_left
                            · simp only [Act.put, List.setIfInBounds_toArray, List.set_cons_zero, List.set_cons_succ, i64_w, i32_w]
                              rfl
                            refine pure_ (i := 19) (N := some 30) (v := ?_) (a' := ?_) #[true, true, true, true, true, true, true, true, true, true, true, true, true, true, true, true, true, true, true, true, true, true, false, false, false, true, true, false, false, false] rfl rfl (any_of HT_.out (by kernel_rfl)) (fun _ _ _ h => h) (Or.inl ⟨by rfl, ?_⟩) ?_ ?_
                            rotate_left
                            · intro w'
                              go_simp
                              with_reducible rfl
                            rotate_left
                            · simp only [Act.put, List.setIfInBounds_toArray, List.set_cons_zero, List.set_cons_succ, i64_w, i32_w]
                              rfl
                            refine one_ (i := 22) (N := some 33) #[true, true, true, true, true, true, true, true, true, true, true, true, true, true, true, true, true, true, true, true, true, true, true, false, false, true, true, false, false, false] rfl rfl (one_of HT_.out (by kernel_rfl)) (by decide) (fun K hK => ?_)
                            refine goes_ Tryd.func29 (by kernel_rfl) rfl #[.int .i64 a0_4, .int .i64 2] (by rfl) rfl rfl (by (try simp only [List.map_toArray, List.map_cons, List.map_nil]); first | done | rfl | (simp only [List.length_drop, List.length_take]; rfl)) ?_
                            with_reducible refine (longcaseref03_digits.calls kj1 a0_4 2 t138 _ A18.out (by first | exact hG | exact hG.drewN _ | exact (hG.drewN _).drewN _ | exact hG.below HB.out | exact hG.below (by repeat (first | (with_reducible first | exact HB.out | apply below_alloc | apply pw_below_drewN | apply below_drew1 | refine below_set ?_ (Aside0.out (by assumption))) | exact HB.out)))).mono ?_
                            rintro e w28 ⟨rfl, hb⟩
                            refine ⟨_, rfl, ?_⟩
                            have n0_ := Aside0.mk (blk_below (g := gb133) (o := .cells #[.int .i64 a0_0, .int .i64 a0_1, .int .i64 a0_2, .int .i64 a0_3, .int .i64 a0_4, .int .i64 a0_5] 23 (0, 0)) (by (with_reducible repeat (first | refine blk_drewN ?_ _ | refine blk_drew ?_ | refine blk_alloc ?_ _)); exact BK133.out) hb)
                            have n1_ := Aside0.mk (below_step (by repeat (first | (with_reducible first | exact HB.out | apply below_alloc | apply pw_below_drewN | apply below_drew1 | refine below_set ?_ GE133.out) | exact HB.out)) hb)
                            clear BK133
                            clear HB
                            have BK133 := n0_
                            have HB := n1_
                            clear n0_ n1_
                            (try clear hb)
                            (try clear hb2)
                            (try clear hk)
                            (try clear hi)
                            refine hK.out _ _ ⟨(blk_cell BK133.out 0).trans rfl, (blk_cell BK133.out 1).trans rfl, (blk_cell BK133.out 2).trans rfl, (blk_cell BK133.out 3).trans rfl, (blk_cell BK133.out 4).trans rfl, (blk_cell BK133.out 5).trans rfl⟩ (fun hHeld => ?_)
                            clear hK K
                            refine norm_ (a' := ?_) ?_ ?_
                            rotate_left
                            · show Act.put _ (some 33) _ = _
                              simp only [Act.put, List.setIfInBounds_toArray, List.set_cons_zero, List.set_cons_succ, i64_w, i32_w]
                              rfl
                            refine pure_ (i := 23) (N := some 34) (v := ?_) (a' := ?_) #[true, true, true, true, true, true, true, true, true, true, true, true, true, true, true, true, true, true, true, true, true, true, true, true, false, true, true, false, false, false] rfl rfl (any_of HT_.out (by kernel_rfl)) (fun _ _ _ h => h) (Or.inl ⟨by rfl, ?_⟩) ?_ ?_
                            rotate_left
                            · intro w'
                              go_simp
                              with_reducible rfl
                            rotate_left
                            · simp only [Act.put, List.setIfInBounds_toArray, List.set_cons_zero, List.set_cons_succ, i64_w, i32_w]
                              rfl
                            refine pure_ (i := 24) (N := some 35) (v := ?_) (a' := ?_) #[true, true, true, true, true, true, true, true, true, true, true, true, true, true, true, true, true, true, true, true, true, true, true, true, true, true, true, false, false, false] rfl rfl (any_of HT_.out (by kernel_rfl)) (fun _ _ _ h => h) (Or.inl ⟨by rfl, ?_⟩) ?_ ?_
                            rotate_left
                            · intro w'
                              go_simp
                              with_reducible rfl
                            rotate_left
                            · simp only [Act.put, List.setIfInBounds_toArray, List.set_cons_zero, List.set_cons_succ, i64_w, i32_w]
                              rfl
                            refine one_ (i := 27) (N := some 38) #[true, true, true, true, true, true, true, true, true, true, true, true, true, true, true, true, true, true, true, true, true, true, true, true, true, true, true, true, false, false] rfl rfl (one_of HT_.out (by kernel_rfl)) (by decide) (fun K hK => ?_)
                            refine goes_ Tryd.func29 (by kernel_rfl) rfl #[.int .i64 a0_5, .int .i64 2] (by rfl) rfl rfl (by (try simp only [List.map_toArray, List.map_cons, List.map_nil]); first | done | rfl | (simp only [List.length_drop, List.length_take]; rfl)) ?_
                            with_reducible refine (longcaseref03_digits.calls kj1 a0_5 2 t139 _ A21.out (by first | exact hG | exact hG.drewN _ | exact (hG.drewN _).drewN _ | exact hG.below HB.out | exact hG.below (by repeat (first | (with_reducible first | exact HB.out | apply below_alloc | apply pw_below_drewN | apply below_drew1 | refine below_set ?_ (Aside0.out (by assumption))) | exact HB.out)))).mono ?_
                            rintro e w29 ⟨rfl, hb⟩
                            refine ⟨_, rfl, ?_⟩
                            have n0_ := Aside0.mk (blk_below (g := gb133) (o := .cells #[.int .i64 a0_0, .int .i64 a0_1, .int .i64 a0_2, .int .i64 a0_3, .int .i64 a0_4, .int .i64 a0_5] 23 (0, 0)) (by (with_reducible repeat (first | refine blk_drewN ?_ _ | refine blk_drew ?_ | refine blk_alloc ?_ _)); exact BK133.out) hb)
                            have n1_ := Aside0.mk (below_step (by repeat (first | (with_reducible first | exact HB.out | apply below_alloc | apply pw_below_drewN | apply below_drew1 | refine below_set ?_ GE133.out) | exact HB.out)) hb)
                            clear BK133
                            clear HB
                            have BK133 := n0_
                            have HB := n1_
                            clear n0_ n1_
                            (try clear hb)
                            (try clear hb2)
                            (try clear hk)
                            (try clear hi)
                            refine hK.out _ _ ⟨(blk_cell BK133.out 0).trans rfl, (blk_cell BK133.out 1).trans rfl, (blk_cell BK133.out 2).trans rfl, (blk_cell BK133.out 3).trans rfl, (blk_cell BK133.out 4).trans rfl, (blk_cell BK133.out 5).trans rfl⟩ (fun hHeld => ?_)
                            clear hK K
                            refine norm_ (a' := ?_) ?_ ?_
                            rotate_left
                            · show Act.put _ (some 38) _ = _
                              simp only [Act.put, List.setIfInBounds_toArray, List.set_cons_zero, List.set_cons_succ, i64_w, i32_w]
                              rfl
                            refine pure_ (i := 28) (N := some 39) (v := ?_) (a' := ?_) #[true, true, true, true, true, true, true, true, true, true, true, true, true, true, true, true, true, true, true, true, true, true, true, true, true, true, true, true, true, false] rfl rfl (any_of HT_.out (by kernel_rfl)) (fun _ _ _ h => h) (Or.inl ⟨by rfl, ?_⟩) ?_ ?_
                            rotate_left
                            · intro w'
                              go_simp
                              with_reducible rfl
                            rotate_left
                            · simp only [Act.put, List.setIfInBounds_toArray, List.set_cons_zero, List.set_cons_succ, i64_w, i32_w]
                              rfl
                            refine pure_ (i := 29) (N := some 2) (v := ?_) (a' := ?_) #[true, true, true, true, true, true, true, true, true, true, true, true, true, true, true, true, true, true, true, true, true, true, true, true, true, true, true, true, true, true] rfl rfl (any_of HT_.out (by kernel_rfl)) (fun _ _ _ h => h) (Or.inl ⟨by rfl, ?_⟩) ?_ ?_
                            rotate_left
                            · intro w'
                              go_simp
                              with_reducible rfl
                            rotate_left
                            · simp only [Act.put, List.setIfInBounds_toArray, List.set_cons_zero, List.set_cons_succ, i64_w, i32_w]
                              rfl
                            refine done_ (done_of HT_.out (by kernel_rfl)) ?_
                            try go_wp2
                            go_ret
                            exact ⟨by first | rfl | (simp [errW_none, errW_some] <;> rfl) | (simp [*, errW_none, errW_some] <;> rfl), by repeat (first | (with_reducible first | exact HB.out | apply below_alloc | apply pw_below_drewN | apply below_drew1 | refine below_set ?_ GE133.out) | exact HB.out)⟩
                          · rw [if_neg c22] at H
                            exact absurd H (by simp)
                        · rw [if_neg c20] at H
                          exact absurd H (by simp)
                      · rw [if_neg c19] at H
                        exact absurd H (by simp)
                    · rw [if_neg c17] at H
                      exact absurd H (by simp)
                  · rw [if_neg c16] at H
                    exact absurd H (by simp)
                · rw [if_neg c14] at H
                  exact absurd H (by simp)
              · rw [if_neg c13] at H
                exact absurd H (by simp)
            · rw [if_neg c11] at H
              exact absurd H (by simp)
          · rw [if_neg c10] at H
            exact absurd H (by simp)
        · rw [if_neg c8] at H
          exact absurd H (by simp)
      · rw [if_neg c7] at H
        exact absurd H (by simp)

/-! ### longcaseref02_E: function 19 -/
def longcaseref02_E.f (a0 : Bool) (a1 : Int) : Option (Int) := if a0 = true then (some 0) else (some a1)
set_option maxHeartbeats 8000000 in
set_option maxRecDepth 100000 in
theorem longcaseref02_E.calls (a0 : Bool) (a1 : Int) (r : Int) (w : World) (h : longcaseref02_E.f a0 a1 = some r) : Glob w →
    Calls Tryd.prog 19 #[.bool a0, .int .i64 a1] w fun e w' => e = .returned (.int .i64 r) ∧ Drawn0 w w' := by
  intro hG
  have H : (if a0 = true then (some 0) else (some a1)) = some r := h
  clear h
  by_cases c3 : a0 = true
  · subst c3
    have H1 : (some 0) = some r := by rw [if_pos rfl] at H; exact H
    clear H
    have H := H1
    clear H1
    obtain rfl := Option.some.inj H
    go_enter Tryd.func19, Tryd.ntmps19
    go_wp2
    go_ret
    exact ⟨by first | rfl | (simp; done) | (simp [*]; done), by repeat (first | exact Drawn0.refl _ | apply Drawn0.step)⟩
  · replace c3 := Bool.eq_false_iff.mpr c3
    subst c3
    have H1 : (some a1) = some r := by rw [if_neg (show ¬ (false = true) by decide)] at H; exact H
    clear H
    have H := H1
    clear H1
    obtain rfl := Option.some.inj H
    go_enter Tryd.func19, Tryd.ntmps19
    go_wp2
    go_ret
    exact ⟨by first | rfl | (simp; done) | (simp [*]; done), by repeat (first | exact Drawn0.refl _ | apply Drawn0.step)⟩

end Go.Proofs.YtpmcmkobpjobbaaDoor.PPR
