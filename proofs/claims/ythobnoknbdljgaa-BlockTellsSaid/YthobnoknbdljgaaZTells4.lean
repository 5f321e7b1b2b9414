/- What the claim needs of its texts, one behind the other (laid by a program of the session's). -/
import Derived.Test.YthobnoknbdljgaaZTells3
import Derived.Test.YthobnoknbdljgaaProg
import Derived.Below
import Derived.Deep.Draws
import Derived.Deep.AppendLies
import Derived.Maps.AppendAt
import Derived.OwnWalk
import Derived.Laws.BytesArg
import Derived.Laws.MakeOwn
import Derived.Laws.OwnMore
import Derived.Deep.OwnRows
import Derived.Tactics
import Derived.Lib.ConvBytes
import Derived.Laws.Slices
import Derived.WalkKit
import Derived.KernelRfl
import Derived.RowKit3
import Derived.Deep.LoopGhost
import Derived.Deep.QuietTactic
import Derived.BigQuiet
import Derived.WideLaws
import Derived.Deep.DeepCutAuto
import Derived.Deep.CutBlock
import Derived.Deep.RegionHeld3
import Derived.Laws.Rows
import Derived.Lib.AppendStr
import Derived.ArgAppend
import Derived.Laws.IdiomCopy
import Derived.OrdersHeld
import Derived.Laws.BitsLemmas
import Derived.RowKit
section
namespace Go.Proofs.Ythobnoknbdljgaa.PM
open Go.Proofs.Ythobnoknbdljgaa.PB0 Sq
open Go.RowKit Go.Proofs.YthobnoknbdljgaaW.PrintWords Go.Proofs.YthobnoknbdljgaaW.PrintLast Go.Proofs.YthobnoknbdljgaaW.PrintMore
attribute [local go_sem] max2_int min2_int max_two min_two
set_option linter.unusedVariables false
set_option linter.unusedSimpArgs false
attribute [local go_sem high] eqA54 eqA56 eqA67
mutual
def longcaseref06_Same.j0 : Nat → Bool → List (S56) → List (S54) → List (S67) → List Bool → List Bool → List (S56) → List (S54) → List (S67) → List Bool → List Bool → Option (Bool)
 | 0, _, _, _, _, _, _, _, _, _, _, _ => none
 | k + 1, x48, x104000, x104001, x104002, x104003, x104004, x105000, x105001, x105002, x105003, x105004 => if x48 = true then (some false) else (longcaseref06_Same.l0 k 0 x104000 x104001 x104002 x104003 x104004 x105000 x105001 x105002 x105003 x105004)
def longcaseref06_Same.l0 : Nat → Int → List (S56) → List (S54) → List (S67) → List Bool → List Bool → List (S56) → List (S54) → List (S67) → List Bool → List Bool → Option (Bool)
 | 0, _, _, _, _, _, _, _, _, _, _, _ => none
 | k + 1, x5, x104000, x104001, x104002, x104003, x104004, x105000, x105001, x105002, x105003, x105004 => if x5 < (x104000.length : Int) then (if 0 ≤ x5 then (if x5 < (x105000.length : Int) then (if (!(((rd_T56 x104000 x5).f0) == ((rd_T56 x105000 x5).f0)) || (!(((rd_T56 x104000 x5).f1) == ((rd_T56 x105000 x5).f1)) || (!((((rd_T56 x104000 x5).f2).toList) == (((rd_T56 x105000 x5).f2).toList))))) = true then (some false) else (longcaseref06_Same.l0 k (wrap64 (x5 + 1)) x104000 x104001 x104002 x104003 x104004 x105000 x105001 x105002 x105003 x105004)) else (none)) else (none)) else (longcaseref06_Same.l1 k 0 x104000 x104001 x104002 x104003 x104004 x105000 x105001 x105002 x105003 x105004)
def longcaseref06_Same.l1 : Nat → Int → List (S56) → List (S54) → List (S67) → List Bool → List Bool → List (S56) → List (S54) → List (S67) → List Bool → List Bool → Option (Bool)
 | 0, _, _, _, _, _, _, _, _, _, _, _ => none
 | k + 1, x6, x104000, x104001, x104002, x104003, x104004, x105000, x105001, x105002, x105003, x105004 => if x6 < (x104001.length : Int) then (if 0 ≤ x6 then (if x6 < (x105001.length : Int) then (if (!(((rd_T54 x104001 x6).f0) == ((rd_T54 x105001 x6).f0)) || (!(((rd_T54 x104001 x6).f1) == ((rd_T54 x105001 x6).f1)))) = true then (some false) else (longcaseref06_Same.l1 k (wrap64 (x6 + 1)) x104000 x104001 x104002 x104003 x104004 x105000 x105001 x105002 x105003 x105004)) else (none)) else (none)) else (longcaseref06_Same.l2 k 0 x104000 x104001 x104002 x104003 x104004 x105000 x105001 x105002 x105003 x105004)
def longcaseref06_Same.l2 : Nat → Int → List (S56) → List (S54) → List (S67) → List Bool → List Bool → List (S56) → List (S54) → List (S67) → List Bool → List Bool → Option (Bool)
 | 0, _, _, _, _, _, _, _, _, _, _, _ => none
 | k + 1, x7, x104000, x104001, x104002, x104003, x104004, x105000, x105001, x105002, x105003, x105004 => if x7 < (x104002.length : Int) then (if 0 ≤ x7 then (if x7 < (x105002.length : Int) then (if (!(((rd_T67 x104002 x7).f0) == ((rd_T67 x105002 x7).f0)) || (!(((rd_T67 x104002 x7).f1) == ((rd_T67 x105002 x7).f1)))) = true then (some false) else (longcaseref06_Same.l2 k (wrap64 (x7 + 1)) x104000 x104001 x104002 x104003 x104004 x105000 x105001 x105002 x105003 x105004)) else (none)) else (none)) else (some true)
end
def longcaseref06_Same.f (k : Nat) (l0_0 : List (S56)) (l0_1 : List (S54)) (l0_2 : List (S67)) (l0_3 : List Bool) (l0_4 : List Bool) (l1_0 : List (S56)) (l1_1 : List (S54)) (l1_2 : List (S67)) (l1_3 : List Bool) (l1_4 : List Bool) : Option (Bool) := if (l0_0.length : Int) = (l1_0.length : Int) then (if (l0_1.length : Int) = (l1_1.length : Int) then (if (l0_2.length : Int) = (l1_2.length : Int) then ((longcaseref06_bools.f k l0_3 l1_3).bind fun t105 => (if t105 = true then ((longcaseref06_bools.f k l0_4 l1_4).bind fun t106 => (longcaseref06_Same.j0 k (!t106) l0_0 l0_1 l0_2 l0_3 l0_4 l1_0 l1_1 l1_2 l1_3 l1_4)) else (longcaseref06_Same.j0 k true l0_0 l0_1 l0_2 l0_3 l0_4 l1_0 l1_1 l1_2 l1_3 l1_4))) else (longcaseref06_Same.j0 k true l0_0 l0_1 l0_2 l0_3 l0_4 l1_0 l1_1 l1_2 l1_3 l1_4)) else (longcaseref06_Same.j0 k true l0_0 l0_1 l0_2 l0_3 l0_4 l1_0 l1_1 l1_2 l1_3 l1_4)) else (longcaseref06_Same.j0 k true l0_0 l0_1 l0_2 l0_3 l0_4 l1_0 l1_1 l1_2 l1_3 l1_4)
set_option maxHeartbeats 8000000 in
set_option maxRecDepth 100000 in
theorem longcaseref06_Same.calls (k : Nat) (A0_0 : Option Addr) (c0_0 : Nat) (l0_0 : List (S56)) (A0_1 : Option Addr) (c0_1 : Nat) (l0_1 : List (S54)) (A0_2 : Option Addr) (c0_2 : Nat) (l0_2 : List (S67)) (A0_3 : Option Addr) (c0_3 : Nat) (l0_3 : List Bool) (A0_4 : Option Addr) (c0_4 : Nat) (l0_4 : List Bool) (A1_0 : Option Addr) (c1_0 : Nat) (l1_0 : List (S56)) (A1_1 : Option Addr) (c1_1 : Nat) (l1_1 : List (S54)) (A1_2 : Option Addr) (c1_2 : Nat) (l1_2 : List (S67)) (A1_3 : Option Addr) (c1_3 : Nat) (l1_3 : List Bool) (A1_4 : Option Addr) (c1_4 : Nat) (l1_4 : List Bool) (r : Bool) (w : World) (hr0_0 : Kd.C k56 w A0_0 l0_0.length l0_0) (hc0_0 : l0_0.length ≤ c0_0) (hr0_1 : Kd.C k54 w A0_1 l0_1.length l0_1) (hc0_1 : l0_1.length ≤ c0_1) (hr0_2 : Kd.C k67 w A0_2 l0_2.length l0_2) (hc0_2 : l0_2.length ≤ c0_2) (hr0_3 : Kd.C Kd.bool w A0_3 l0_3.length l0_3) (hc0_3 : l0_3.length ≤ c0_3) (hr0_4 : Kd.C Kd.bool w A0_4 l0_4.length l0_4) (hc0_4 : l0_4.length ≤ c0_4) (hr1_0 : Kd.C k56 w A1_0 l1_0.length l1_0) (hc1_0 : l1_0.length ≤ c1_0) (hr1_1 : Kd.C k54 w A1_1 l1_1.length l1_1) (hc1_1 : l1_1.length ≤ c1_1) (hr1_2 : Kd.C k67 w A1_2 l1_2.length l1_2) (hc1_2 : l1_2.length ≤ c1_2) (hr1_3 : Kd.C Kd.bool w A1_3 l1_3.length l1_3) (hc1_3 : l1_3.length ≤ c1_3) (hr1_4 : Kd.C Kd.bool w A1_4 l1_4.length l1_4) (hc1_4 : l1_4.length ≤ c1_4) (h : longcaseref06_Same.f k l0_0 l0_1 l0_2 l0_3 l0_4 l1_0 l1_1 l1_2 l1_3 l1_4 = some r) :
  Calls Try.prog 17 #[.agg #[.slice A0_0 l0_0.length c0_0, .slice A0_1 l0_1.length c0_1, .slice A0_2 l0_2.length c0_2, .slice A0_3 l0_3.length c0_3, .slice A0_4 l0_4.length c0_4], .agg #[.slice A1_0 l1_0.length c1_0, .slice A1_1 l1_1.length c1_1, .slice A1_2 l1_2.length c1_2, .slice A1_3 l1_3.length c1_3, .slice A1_4 l1_4.length c1_4]] w fun e w' => e = .returned (.bool r) ∧ Below w.heap.size w w' := by
 have hu31 := Try.underlying31
 have hu56 := Try.underlying56
 have hu54 := Try.underlying54
 have hu67 := Try.underlying67
 have HR0_0 := Aside0.mk hr0_0
 have HC0_0 := Aside0.mk hc0_0
 clear hr0_0 hc0_0
 have HR0_1 := Aside0.mk hr0_1
 have HC0_1 := Aside0.mk hc0_1
 clear hr0_1 hc0_1
 have HR0_2 := Aside0.mk hr0_2
 have HC0_2 := Aside0.mk hc0_2
 clear hr0_2 hc0_2
 have HR0_3 := Aside0.mk hr0_3
 have HC0_3 := Aside0.mk hc0_3
 clear hr0_3 hc0_3
 have HR0_4 := Aside0.mk hr0_4
 have HC0_4 := Aside0.mk hc0_4
 clear hr0_4 hc0_4
 have HR1_0 := Aside0.mk hr1_0
 have HC1_0 := Aside0.mk hc1_0
 clear hr1_0 hc1_0
 have HR1_1 := Aside0.mk hr1_1
 have HC1_1 := Aside0.mk hc1_1
 clear hr1_1 hc1_1
 have HR1_2 := Aside0.mk hr1_2
 have HC1_2 := Aside0.mk hc1_2
 clear hr1_2 hc1_2
 have HR1_3 := Aside0.mk hr1_3
 have HC1_3 := Aside0.mk hc1_3
 clear hr1_3 hc1_3
 have HR1_4 := Aside0.mk hr1_4
 have HC1_4 := Aside0.mk hc1_4
 clear hr1_4 hc1_4
 have HB := Aside0.mk (Below.refl w.heap.size w)
 have H : (if (l0_0.length : Int) = (l1_0.length : Int) then (if (l0_1.length : Int) = (l1_1.length : Int) then (if (l0_2.length : Int) = (l1_2.length : Int) then ((longcaseref06_bools.f k l0_3 l1_3).bind fun t105 => (if t105 = true then ((longcaseref06_bools.f k l0_4 l1_4).bind fun t106 => (longcaseref06_Same.j0 k (!t106) l0_0 l0_1 l0_2 l0_3 l0_4 l1_0 l1_1 l1_2 l1_3 l1_4)) else (longcaseref06_Same.j0 k true l0_0 l0_1 l0_2 l0_3 l0_4 l1_0 l1_1 l1_2 l1_3 l1_4))) else (longcaseref06_Same.j0 k true l0_0 l0_1 l0_2 l0_3 l0_4 l1_0 l1_1 l1_2 l1_3 l1_4)) else (longcaseref06_Same.j0 k true l0_0 l0_1 l0_2 l0_3 l0_4 l1_0 l1_1 l1_2 l1_3 l1_4)) else (longcaseref06_Same.j0 k true l0_0 l0_1 l0_2 l0_3 l0_4 l1_0 l1_1 l1_2 l1_3 l1_4)) = some r := h
 clear h
 have HC3 := Aside0.mk H
 clear H
 go_enter Try.func17, Try.ntmps17
 go_upto_region 1 with (first | ((with_reducible refine gate_dst (N := 2) rfl ?_); (try (refine gate_guard (by rfl) ?_; dsimp only)); refine box_event ?hg (N := 2) ?hd (cs := #[.slice A0_0 l0_0.length c0_0, .slice A0_1 l0_1.length c0_1, .slice A0_2 l0_2.length c0_2, .slice A0_3 l0_3.length c0_3, .slice A0_4 l0_4.length c0_4]) (t := 31) ?hr ?_; (case hd => rfl); (case hg => rfl); (case hr => first | (go_simp; done) | (go_simp; rfl)); intro gb103 hg w4 hbox hb; have BK103 := Aside0.mk (hbox); have GW103 := Aside0.mk ((by rw [hg]; exact (below_size (Sq.kl HB)) : w.heap.size ≤ gb103)); have GE103 := Aside0.mk ((by rw [hg]; exact (below_size (Sq.kl HB)) : w.heap.size ≤ gb103)); replace HB := Aside0.mk (below_step (Sq.kl HB) hb); clear hb hbox hg) | ((with_reducible refine gate_dst (N := 3) rfl ?_); (try (refine gate_guard (by rfl) ?_; dsimp only)); refine box_event ?hg (N := 3) ?hd (cs := #[.slice A1_0 l1_0.length c1_0, .slice A1_1 l1_1.length c1_1, .slice A1_2 l1_2.length c1_2, .slice A1_3 l1_3.length c1_3, .slice A1_4 l1_4.length c1_4]) (t := 31) ?hr ?_; (case hd => rfl); (case hg => rfl); (case hr => first | (go_simp; done) | (go_simp; rfl)); intro gb104 hg w5 hbox hb; have BK104 := Aside0.mk (hbox); have GW104 := Aside0.mk ((by rw [hg]; exact (below_size (Sq.kl1 HB GE103)) : w.heap.size ≤ gb104)); have GE104 := Aside0.mk ((by rw [hg]; exact (below_size (Sq.kl1 HB GE103)) : w.heap.size ≤ gb104)); replace HB := Aside0.mk (below_step (Sq.kl1 HB GE103) hb); have NB103_104 := Aside0.mk ((by rw [hg]; exact Nat.ne_of_lt (blk_lt (kb BK103)) : gb103 ≠ gb104)); have NB104_103 := Aside0.mk ((by rw [hg]; exact Nat.ne_of_gt (blk_lt (kb BK103)) : gb104 ≠ gb103)); replace BK103 := kbb BK103 hb; clear hb hbox hg))
 repeat (go_quiet (first | ((with_reducible refine gate_dst (N := 2) rfl ?_); (try (refine gate_guard (by rfl) ?_; dsimp only)); refine box_event ?hg (N := 2) ?hd (cs := #[.slice A0_0 l0_0.length c0_0, .slice A0_1 l0_1.length c0_1, .slice A0_2 l0_2.length c0_2, .slice A0_3 l0_3.length c0_3, .slice A0_4 l0_4.length c0_4]) (t := 31) ?hr ?_; (case hd => rfl); (case hg => rfl); (case hr => first | (go_simp; done) | (go_simp; rfl)); intro gb103 hg w4 hbox hb; have BK103 := Aside0.mk (hbox); have GW103 := Aside0.mk ((by rw [hg]; exact (below_size (Sq.kl HB)) : w.heap.size ≤ gb103)); have GE103 := Aside0.mk ((by rw [hg]; exact (below_size (Sq.kl HB)) : w.heap.size ≤ gb103)); replace HB := Aside0.mk (below_step (Sq.kl HB) hb); clear hb hbox hg) | ((with_reducible refine gate_dst (N := 3) rfl ?_); (try (refine gate_guard (by rfl) ?_; dsimp only)); refine box_event ?hg (N := 3) ?hd (cs := #[.slice A1_0 l1_0.length c1_0, .slice A1_1 l1_1.length c1_1, .slice A1_2 l1_2.length c1_2, .slice A1_3 l1_3.length c1_3, .slice A1_4 l1_4.length c1_4]) (t := 31) ?hr ?_; (case hd => rfl); (case hg => rfl); (case hr => first | (go_simp; done) | (go_simp; rfl)); intro gb104 hg w5 hbox hb; have BK104 := Aside0.mk (hbox); have GW104 := Aside0.mk ((by rw [hg]; exact (below_size (Sq.kl1 HB GE103)) : w.heap.size ≤ gb104)); have GE104 := Aside0.mk ((by rw [hg]; exact (below_size (Sq.kl1 HB GE103)) : w.heap.size ≤ gb104)); replace HB := Aside0.mk (below_step (Sq.kl1 HB GE103) hb); have NB103_104 := Aside0.mk ((by rw [hg]; exact Nat.ne_of_lt (blk_lt (kb BK103)) : gb103 ≠ gb104)); have NB104_103 := Aside0.mk ((by rw [hg]; exact Nat.ne_of_gt (blk_lt (kb BK103)) : gb104 ≠ gb103)); replace BK103 := kbb BK103 hb; clear hb hbox hg)); go_upto_region 1 with (first | ((with_reducible refine gate_dst (N := 2) rfl ?_); (try (refine gate_guard (by rfl) ?_; dsimp only)); refine box_event ?hg (N := 2) ?hd (cs := #[.slice A0_0 l0_0.length c0_0, .slice A0_1 l0_1.length c0_1, .slice A0_2 l0_2.length c0_2, .slice A0_3 l0_3.length c0_3, .slice A0_4 l0_4.length c0_4]) (t := 31) ?hr ?_; (case hd => rfl); (case hg => rfl); (case hr => first | (go_simp; done) | (go_simp; rfl)); intro gb103 hg w4 hbox hb; have BK103 := Aside0.mk (hbox); have GW103 := Aside0.mk ((by rw [hg]; exact (below_size (Sq.kl HB)) : w.heap.size ≤ gb103)); have GE103 := Aside0.mk ((by rw [hg]; exact (below_size (Sq.kl HB)) : w.heap.size ≤ gb103)); replace HB := Aside0.mk (below_step (Sq.kl HB) hb); clear hb hbox hg) | ((with_reducible refine gate_dst (N := 3) rfl ?_); (try (refine gate_guard (by rfl) ?_; dsimp only)); refine box_event ?hg (N := 3) ?hd (cs := #[.slice A1_0 l1_0.length c1_0, .slice A1_1 l1_1.length c1_1, .slice A1_2 l1_2.length c1_2, .slice A1_3 l1_3.length c1_3, .slice A1_4 l1_4.length c1_4]) (t := 31) ?hr ?_; (case hd => rfl); (case hg => rfl); (case hr => first | (go_simp; done) | (go_simp; rfl)); intro gb104 hg w5 hbox hb; have BK104 := Aside0.mk (hbox); have GW104 := Aside0.mk ((by rw [hg]; exact (below_size (Sq.kl1 HB GE103)) : w.heap.size ≤ gb104)); have GE104 := Aside0.mk ((by rw [hg]; exact (below_size (Sq.kl1 HB GE103)) : w.heap.size ≤ gb104)); replace HB := Aside0.mk (below_step (Sq.kl1 HB GE103) hb); have NB103_104 := Aside0.mk ((by rw [hg]; exact Nat.ne_of_lt (blk_lt (kb BK103)) : gb103 ≠ gb104)); have NB104_103 := Aside0.mk ((by rw [hg]; exact Nat.ne_of_gt (blk_lt (kb BK103)) : gb104 ≠ gb103)); replace BK103 := kbb BK103 hb; clear hb hbox hg)))
 (try simp only [Act.put, List.setIfInBounds_toArray, List.set_cons_zero, List.set_cons_succ])
 go_cut [48] (fun v48 wc => ∃ (kq : Nat) (x48_2 : Bool), v48 = .bool x48_2 ∧ Aside0 (longcaseref06_Same.j0 kq x48_2 l0_0 l0_1 l0_2 l0_3 l0_4 l1_0 l1_1 l1_2 l1_3 l1_4 = some r) ∧ Aside0 (kq ≤ k) ∧ Aside0 (wc.heap[gb103]? = some (.cells #[(.slice A0_0 l0_0.length c0_0), (.slice A0_1 l0_1.length c0_1), (.slice A0_2 l0_2.length c0_2), (.slice A0_3 l0_3.length c0_3), (.slice A0_4 l0_4.length c0_4)] 31 (0, 0))) ∧ Aside0 (wc.heap[gb104]? = some (.cells #[(.slice A1_0 l1_0.length c1_0), (.slice A1_1 l1_1.length c1_1), (.slice A1_2 l1_2.length c1_2), (.slice A1_3 l1_3.length c1_3), (.slice A1_4 l1_4.length c1_4)] 31 (0, 0))) ∧ Aside0 (Below w.heap.size w wc))
 case first =>
  have H := HC3.out
  clear HC3
  by_cases c6 : (l0_0.length : Int) = (l1_0.length : Int)
  rotate_left
  ·
   rw [if_neg c6] at H
   have c6b0 : ((l0_0.length : Int) == (l1_0.length : Int)) = false := beq_eq_false_iff_ne.mpr c6
   have c6b1 : ((l0_0.length : Int) != (l1_0.length : Int)) = true := bne_iff_ne.mpr c6
   have c6b2 : (l0_0.length == l1_0.length) = false := by first | simpa using c6 | (simp at c6 ⊢; omega)
   (first | rw [c6b0] | rw [c6b1] | (simp only [i64_w, i32_w]; rw [c6b0]) | skip)
   have H' := Aside0.mk H
   clear H
   have hnb24 := NB103_104.out
   have hnc24 := NB104_103.out
   obtain ⟨hcz25_0, hcz25_1, hcz25_2, hcz25_3, hcz25_4⟩ := Sq.c5 BK103
   obtain ⟨hfz25_0, hfz25_1, hfz25_2, hfz25_3, hfz25_4⟩ := Sq.z5 BK103
   obtain ⟨hcz26_0, hcz26_1, hcz26_2, hcz26_3, hcz26_4⟩ := Sq.c5 BK104
   obtain ⟨hfz26_0, hfz26_1, hfz26_2, hfz26_3, hfz26_4⟩ := Sq.z5 BK104
   go_wp2
   repeat (go_quiet (fail); try go_wp2)
   go_meet
   case rel => exact ⟨_, (true), (by first | rfl | (simp; done) | (simp [*]; done)), H', ⟨by first | omega | exact Nat.le_refl _⟩, ⟨Sq.kb BK103⟩, ⟨Sq.kb BK104⟩, ⟨Sq.kl2 HB GE103 GE104⟩⟩
  rw [if_pos c6] at H
  have c6b0 : ((l0_0.length : Int) == (l1_0.length : Int)) = true := beq_iff_eq.mpr c6
  have c6b1 : ((l0_0.length : Int) != (l1_0.length : Int)) = false := bne_eq_false_iff_eq.mpr c6
  have c6b2 : (l0_0.length == l1_0.length) = true := by first | simpa using c6 | (simp at c6 ⊢; omega)
  clear c6
  (first | rw [c6b0] | rw [c6b1] | (simp only [i64_w, i32_w]; rw [c6b0]) | skip)
  by_cases c7 : (l0_1.length : Int) = (l1_1.length : Int)
  rotate_left
  ·
   rw [if_neg c7] at H
   have c7b0 : ((l0_1.length : Int) == (l1_1.length : Int)) = false := beq_eq_false_iff_ne.mpr c7
   have c7b1 : ((l0_1.length : Int) != (l1_1.length : Int)) = true := bne_iff_ne.mpr c7
   have c7b2 : (l0_1.length == l1_1.length) = false := by first | simpa using c7 | (simp at c7 ⊢; omega)
   have H' := Aside0.mk H
   clear H
   have hnb21 := NB103_104.out
   have hnc21 := NB104_103.out
   obtain ⟨hcz22_0, hcz22_1, hcz22_2, hcz22_3, hcz22_4⟩ := Sq.c5 BK103
   obtain ⟨hfz22_0, hfz22_1, hfz22_2, hfz22_3, hfz22_4⟩ := Sq.z5 BK103
   obtain ⟨hcz23_0, hcz23_1, hcz23_2, hcz23_3, hcz23_4⟩ := Sq.c5 BK104
   obtain ⟨hfz23_0, hfz23_1, hfz23_2, hfz23_3, hfz23_4⟩ := Sq.z5 BK104
   go_wp2
   repeat (go_quiet (fail); try go_wp2)
   go_meet
   case rel => exact ⟨_, (true), (by first | rfl | (simp; done) | (simp [*]; done)), H', ⟨by first | omega | exact Nat.le_refl _⟩, ⟨Sq.kb BK103⟩, ⟨Sq.kb BK104⟩, ⟨Sq.kl2 HB GE103 GE104⟩⟩
  rw [if_pos c7] at H
  have c7b0 : ((l0_1.length : Int) == (l1_1.length : Int)) = true := beq_iff_eq.mpr c7
  have c7b1 : ((l0_1.length : Int) != (l1_1.length : Int)) = false := bne_eq_false_iff_eq.mpr c7
  have c7b2 : (l0_1.length == l1_1.length) = true := by first | simpa using c7 | (simp at c7 ⊢; omega)
  clear c7
  by_cases c8 : (l0_2.length : Int) = (l1_2.length : Int)
  rotate_left
  ·
   rw [if_neg c8] at H
   have c8b0 : ((l0_2.length : Int) == (l1_2.length : Int)) = false := beq_eq_false_iff_ne.mpr c8
   have c8b1 : ((l0_2.length : Int) != (l1_2.length : Int)) = true := bne_iff_ne.mpr c8
   have c8b2 : (l0_2.length == l1_2.length) = false := by first | simpa using c8 | (simp at c8 ⊢; omega)
   have H' := Aside0.mk H
   clear H
   have hnb18 := NB103_104.out
   have hnc18 := NB104_103.out
   obtain ⟨hcz19_0, hcz19_1, hcz19_2, hcz19_3, hcz19_4⟩ := Sq.c5 BK103
   obtain ⟨hfz19_0, hfz19_1, hfz19_2, hfz19_3, hfz19_4⟩ := Sq.z5 BK103
   obtain ⟨hcz20_0, hcz20_1, hcz20_2, hcz20_3, hcz20_4⟩ := Sq.c5 BK104
   obtain ⟨hfz20_0, hfz20_1, hfz20_2, hfz20_3, hfz20_4⟩ := Sq.z5 BK104
   go_wp2
   repeat (go_quiet (fail); try go_wp2)
   go_meet
   case rel => exact ⟨_, (true), (by first | rfl | (simp; done) | (simp [*]; done)), H', ⟨by first | omega | exact Nat.le_refl _⟩, ⟨Sq.kb BK103⟩, ⟨Sq.kb BK104⟩, ⟨Sq.kl2 HB GE103 GE104⟩⟩
  rw [if_pos c8] at H
  have c8b0 : ((l0_2.length : Int) == (l1_2.length : Int)) = true := beq_iff_eq.mpr c8
  have c8b1 : ((l0_2.length : Int) != (l1_2.length : Int)) = false := bne_eq_false_iff_eq.mpr c8
  have c8b2 : (l0_2.length == l1_2.length) = true := by first | simpa using c8 | (simp at c8 ⊢; omega)
  clear c8
  replace H := Option.bind_eq_some_iff.mp H
  obtain ⟨t105, A90, H⟩ := H
  replace H : (if t105 = true then ((longcaseref06_bools.f k l0_4 l1_4).bind fun t106 => (longcaseref06_Same.j0 k (!t106) l0_0 l0_1 l0_2 l0_3 l0_4 l1_0 l1_1 l1_2 l1_3 l1_4)) else (longcaseref06_Same.j0 k true l0_0 l0_1 l0_2 l0_3 l0_4 l1_0 l1_1 l1_2 l1_3 l1_4)) = some r := H
  have A9 := Aside0.mk A90
  clear A90
  by_cases c10 : t105 = true
  rotate_left
  ·
   replace c10 := Bool.eq_false_iff.mpr c10
   subst c10
   rw [if_neg (show ¬ (false = true) by decide)] at H
   have H' := Aside0.mk H
   clear H
   have hnb15 := NB103_104.out
   have hnc15 := NB104_103.out
   obtain ⟨hcz16_0, hcz16_1, hcz16_2, hcz16_3, hcz16_4⟩ := Sq.c5 BK103
   obtain ⟨hfz16_0, hfz16_1, hfz16_2, hfz16_3, hfz16_4⟩ := Sq.z5 BK103
   obtain ⟨hcz17_0, hcz17_1, hcz17_2, hcz17_3, hcz17_4⟩ := Sq.c5 BK104
   obtain ⟨hfz17_0, hfz17_1, hfz17_2, hfz17_3, hfz17_4⟩ := Sq.z5 BK104
   go_wp2_with (first | (go_at_call 33; (with_reducible refine (longcaseref06_bools.calls k _ _ l0_3 _ _ l1_3 false _ ?side1 ?side2 ?side3 ?side4 A9.out).mono ?_); (case side1 => exact Sq.qd HR0_3 HB); (case side2 => exact HC0_3.out); (case side3 => exact Sq.qd HR1_3 HB); (case side4 => exact HC1_3.out); rintro e w' ⟨rfl, ⟨nd, rfl⟩⟩; (try first | exact ⟨rfl, _, World.drewN_drewN _ _ _⟩ | exact ⟨rfl, _, Eq.trans (World.drewN_drewN _ _ _) (congrArg (World.drewN _) (Nat.add_assoc _ _ _))⟩)))
   repeat (go_quiet (first | (go_at_call 33; (with_reducible refine (longcaseref06_bools.calls k _ _ l0_3 _ _ l1_3 false _ ?side1 ?side2 ?side3 ?side4 A9.out).mono ?_); (case side1 => exact Sq.qd HR0_3 HB); (case side2 => exact HC0_3.out); (case side3 => exact Sq.qd HR1_3 HB); (case side4 => exact HC1_3.out); rintro e w' ⟨rfl, ⟨nd, rfl⟩⟩; (try first | exact ⟨rfl, _, World.drewN_drewN _ _ _⟩ | exact ⟨rfl, _, Eq.trans (World.drewN_drewN _ _ _) (congrArg (World.drewN _) (Nat.add_assoc _ _ _))⟩))); try go_wp2_with (first | (go_at_call 33; (with_reducible refine (longcaseref06_bools.calls k _ _ l0_3 _ _ l1_3 false _ ?side1 ?side2 ?side3 ?side4 A9.out).mono ?_); (case side1 => exact Sq.qd HR0_3 HB); (case side2 => exact HC0_3.out); (case side3 => exact Sq.qd HR1_3 HB); (case side4 => exact HC1_3.out); rintro e w' ⟨rfl, ⟨nd, rfl⟩⟩; (try first | exact ⟨rfl, _, World.drewN_drewN _ _ _⟩ | exact ⟨rfl, _, Eq.trans (World.drewN_drewN _ _ _) (congrArg (World.drewN _) (Nat.add_assoc _ _ _))⟩))))
   go_meet
   case rel => exact ⟨_, (true), (by first | rfl | (simp; done) | (simp [*]; done)), H', ⟨by first | omega | exact Nat.le_refl _⟩, ⟨Sq.kb BK103⟩, ⟨Sq.kb BK104⟩, ⟨Sq.kl2 HB GE103 GE104⟩⟩
  subst c10
  rw [if_pos rfl] at H
  replace H := Option.bind_eq_some_iff.mp H
  obtain ⟨t106, A110, H⟩ := H
  replace H : (longcaseref06_Same.j0 k (!t106) l0_0 l0_1 l0_2 l0_3 l0_4 l1_0 l1_1 l1_2 l1_3 l1_4) = some r := H
  have A11 := Aside0.mk A110
  clear A110
  have H' := Aside0.mk H
  clear H
  have hnb12 := NB103_104.out
  have hnc12 := NB104_103.out
  obtain ⟨hcz13_0, hcz13_1, hcz13_2, hcz13_3, hcz13_4⟩ := Sq.c5 BK103
  obtain ⟨hfz13_0, hfz13_1, hfz13_2, hfz13_3, hfz13_4⟩ := Sq.z5 BK103
  obtain ⟨hcz14_0, hcz14_1, hcz14_2, hcz14_3, hcz14_4⟩ := Sq.c5 BK104
  obtain ⟨hfz14_0, hfz14_1, hfz14_2, hfz14_3, hfz14_4⟩ := Sq.z5 BK104
  go_wp2_with (first | (go_at_call 33; (with_reducible refine (longcaseref06_bools.calls k _ _ l0_3 _ _ l1_3 true _ ?side1 ?side2 ?side3 ?side4 A9.out).mono ?_); (case side1 => exact Sq.qd HR0_3 HB); (case side2 => exact HC0_3.out); (case side3 => exact Sq.qd HR1_3 HB); (case side4 => exact HC1_3.out); rintro e w' ⟨rfl, ⟨nd, rfl⟩⟩; (try first | exact ⟨rfl, _, World.drewN_drewN _ _ _⟩ | exact ⟨rfl, _, Eq.trans (World.drewN_drewN _ _ _) (congrArg (World.drewN _) (Nat.add_assoc _ _ _))⟩)) | (go_at_call 33; (with_reducible refine (longcaseref06_bools.calls k _ _ l0_4 _ _ l1_4 t106 _ ?side1 ?side2 ?side3 ?side4 A11.out).mono ?_); (case side1 => repeat (first | exact (Kd.C_below HR0_4.out (Sq.kl2 HB GE103 GE104)) | (with_reducible refine Kd.C_alloc ?_ _) | (with_reducible refine Kd.C_drewN ?_ _) | (with_reducible refine Kd.C_drew ?_))); (case side2 => exact HC0_4.out); (case side3 => repeat (first | exact (Kd.C_below HR1_4.out (Sq.kl2 HB GE103 GE104)) | (with_reducible refine Kd.C_alloc ?_ _) | (with_reducible refine Kd.C_drewN ?_ _) | (with_reducible refine Kd.C_drew ?_))); (case side4 => exact HC1_4.out); rintro e w' ⟨rfl, ⟨nd, rfl⟩⟩; (try first | exact ⟨rfl, _, World.drewN_drewN _ _ _⟩ | exact ⟨rfl, _, Eq.trans (World.drewN_drewN _ _ _) (congrArg (World.drewN _) (Nat.add_assoc _ _ _))⟩)))
  repeat (go_quiet (first | (go_at_call 33; (with_reducible refine (longcaseref06_bools.calls k _ _ l0_3 _ _ l1_3 true _ ?side1 ?side2 ?side3 ?side4 A9.out).mono ?_); (case side1 => exact Sq.qd HR0_3 HB); (case side2 => exact HC0_3.out); (case side3 => exact Sq.qd HR1_3 HB); (case side4 => exact HC1_3.out); rintro e w' ⟨rfl, ⟨nd, rfl⟩⟩; (try first | exact ⟨rfl, _, World.drewN_drewN _ _ _⟩ | exact ⟨rfl, _, Eq.trans (World.drewN_drewN _ _ _) (congrArg (World.drewN _) (Nat.add_assoc _ _ _))⟩)) | (go_at_call 33; (with_reducible refine (longcaseref06_bools.calls k _ _ l0_4 _ _ l1_4 t106 _ ?side1 ?side2 ?side3 ?side4 A11.out).mono ?_); (case side1 => repeat (first | exact (Kd.C_below HR0_4.out (Sq.kl2 HB GE103 GE104)) | (with_reducible refine Kd.C_alloc ?_ _) | (with_reducible refine Kd.C_drewN ?_ _) | (with_reducible refine Kd.C_drew ?_))); (case side2 => exact HC0_4.out); (case side3 => repeat (first | exact (Kd.C_below HR1_4.out (Sq.kl2 HB GE103 GE104)) | (with_reducible refine Kd.C_alloc ?_ _) | (with_reducible refine Kd.C_drewN ?_ _) | (with_reducible refine Kd.C_drew ?_))); (case side4 => exact HC1_4.out); rintro e w' ⟨rfl, ⟨nd, rfl⟩⟩; (try first | exact ⟨rfl, _, World.drewN_drewN _ _ _⟩ | exact ⟨rfl, _, Eq.trans (World.drewN_drewN _ _ _) (congrArg (World.drewN _) (Nat.add_assoc _ _ _))⟩))); try go_wp2_with (first | (go_at_call 33; (with_reducible refine (longcaseref06_bools.calls k _ _ l0_3 _ _ l1_3 true _ ?side1 ?side2 ?side3 ?side4 A9.out).mono ?_); (case side1 => exact Sq.qd HR0_3 HB); (case side2 => exact HC0_3.out); (case side3 => exact Sq.qd HR1_3 HB); (case side4 => exact HC1_3.out); rintro e w' ⟨rfl, ⟨nd, rfl⟩⟩; (try first | exact ⟨rfl, _, World.drewN_drewN _ _ _⟩ | exact ⟨rfl, _, Eq.trans (World.drewN_drewN _ _ _) (congrArg (World.drewN _) (Nat.add_assoc _ _ _))⟩)) | (go_at_call 33; (with_reducible refine (longcaseref06_bools.calls k _ _ l0_4 _ _ l1_4 t106 _ ?side1 ?side2 ?side3 ?side4 A11.out).mono ?_); (case side1 => repeat (first | exact (Kd.C_below HR0_4.out (Sq.kl2 HB GE103 GE104)) | (with_reducible refine Kd.C_alloc ?_ _) | (with_reducible refine Kd.C_drewN ?_ _) | (with_reducible refine Kd.C_drew ?_))); (case side2 => exact HC0_4.out); (case side3 => repeat (first | exact (Kd.C_below HR1_4.out (Sq.kl2 HB GE103 GE104)) | (with_reducible refine Kd.C_alloc ?_ _) | (with_reducible refine Kd.C_drewN ?_ _) | (with_reducible refine Kd.C_drew ?_))); (case side4 => exact HC1_4.out); rintro e w' ⟨rfl, ⟨nd, rfl⟩⟩; (try first | exact ⟨rfl, _, World.drewN_drewN _ _ _⟩ | exact ⟨rfl, _, Eq.trans (World.drewN_drewN _ _ _) (congrArg (World.drewN _) (Nat.add_assoc _ _ _))⟩))))
  go_meet
  case rel => exact ⟨_, (!t106), (by first | rfl | (simp; done) | (simp [*]; done)), H', ⟨by first | omega | exact Nat.le_refl _⟩, ⟨Sq.kb BK103⟩, ⟨Sq.kb BK104⟩, ⟨Sq.kl2 HB GE103 GE104⟩⟩
 clear HC3
 try clear c1
 try clear c2
 try clear p2
 try clear c6
 try clear c6b0
 try clear c6b1
 try clear c6b2
 try clear c7
 try clear c7b0
 try clear c7b1
 try clear c7b2
 try clear c8
 try clear c8b0
 try clear c8b1
 try clear c8b2
 try clear c10
 try clear c12
 try clear c15
 try clear c17
 try clear c18
 try clear c21
 try clear c24
 try clear hcz13_0
 try clear hcz13_1
 try clear hcz13_2
 try clear hcz13_3
 try clear hcz13_4
 try clear hcz14_0
 try clear hcz14_1
 try clear hcz14_2
 try clear hcz14_3
 try clear hcz14_4
 try clear hcz16_0
 try clear hcz16_1
 try clear hcz16_2
 try clear hcz16_3
 try clear hcz16_4
 try clear hcz17_0
 try clear hcz17_1
 try clear hcz17_2
 try clear hcz17_3
 try clear hcz17_4
 try clear hcz19_0
 try clear hcz19_1
 try clear hcz19_2
 try clear hcz19_3
 try clear hcz19_4
 try clear hcz20_0
 try clear hcz20_1
 try clear hcz20_2
 try clear hcz20_3
 try clear hcz20_4
 try clear hcz22_0
 try clear hcz22_1
 try clear hcz22_2
 try clear hcz22_3
 try clear hcz22_4
 try clear hcz23_0
 try clear hcz23_1
 try clear hcz23_2
 try clear hcz23_3
 try clear hcz23_4
 try clear hcz25_0
 try clear hcz25_1
 try clear hcz25_2
 try clear hcz25_3
 try clear hcz25_4
 try clear hcz26_0
 try clear hcz26_1
 try clear hcz26_2
 try clear hcz26_3
 try clear hcz26_4
 try clear hfz13_0
 try clear hfz13_1
 try clear hfz13_2
 try clear hfz13_3
 try clear hfz13_4
 try clear hfz14_0
 try clear hfz14_1
 try clear hfz14_2
 try clear hfz14_3
 try clear hfz14_4
 try clear hfz16_0
 try clear hfz16_1
 try clear hfz16_2
 try clear hfz16_3
 try clear hfz16_4
 try clear hfz17_0
 try clear hfz17_1
 try clear hfz17_2
 try clear hfz17_3
 try clear hfz17_4
 try clear hfz19_0
 try clear hfz19_1
 try clear hfz19_2
 try clear hfz19_3
 try clear hfz19_4
 try clear hfz20_0
 try clear hfz20_1
 try clear hfz20_2
 try clear hfz20_3
 try clear hfz20_4
 try clear hfz22_0
 try clear hfz22_1
 try clear hfz22_2
 try clear hfz22_3
 try clear hfz22_4
 try clear hfz23_0
 try clear hfz23_1
 try clear hfz23_2
 try clear hfz23_3
 try clear hfz23_4
 try clear hfz25_0
 try clear hfz25_1
 try clear hfz25_2
 try clear hfz25_3
 try clear hfz25_4
 try clear hfz26_0
 try clear hfz26_1
 try clear hfz26_2
 try clear hfz26_3
 try clear hfz26_4
 obtain ⟨kq, x48_2, rfl, HA, HJ2, BK103, BK104, HB⟩ := hcut
 cases kq with
 | zero => exact absurd HA.out (by simp [longcaseref06_Same.j0])
 | succ kj2 =>
  have H := HA.out
  clear HA
  simp only [longcaseref06_Same.j0] at H
  by_cases c27 : x48_2 = true
  ·
   subst c27
   rw [if_pos rfl] at H
   obtain rfl := Option.some.inj H
   go_wp2
   repeat (go_quiet (fail); try go_wp2)
   go_ret
   exact ⟨by first | rfl | (simp [errW_none, errW_some] <;> rfl) | (simp [*, errW_none, errW_some] <;> rfl), by repeat (first | (with_reducible first | exact HB.out | apply below_alloc | apply pw_below_drewN | apply below_drew1 | refine below_set ?_ GE103.out | refine below_set ?_ GE104.out) | exact HB.out)⟩
  replace c27 := Bool.eq_false_iff.mpr c27
  subst c27
  rw [if_neg (show ¬ (false = true) by decide)] at H
  have H' := Aside0.mk H
  clear H
  go_wp2
  repeat (go_quiet (fail); try go_wp2)
  go_loopg [5] kj2 (fun kq v5 w' => ∃ (x5_2 : Int), v5 = .int .i64 x5_2 ∧ Aside0 (longcaseref06_Same.l0 kq x5_2 l0_0 l0_1 l0_2 l0_3 l0_4 l1_0 l1_1 l1_2 l1_3 l1_4 = some r) ∧ Aside0 (kq ≤ kj2) ∧ Aside0 (w'.heap[gb103]? = some (.cells #[(.slice A0_0 l0_0.length c0_0), (.slice A0_1 l0_1.length c0_1), (.slice A0_2 l0_2.length c0_2), (.slice A0_3 l0_3.length c0_3), (.slice A0_4 l0_4.length c0_4)] 31 (0, 0))) ∧ Aside0 (w'.heap[gb104]? = some (.cells #[(.slice A1_0 l1_0.length c1_0), (.slice A1_1 l1_1.length c1_1), (.slice A1_2 l1_2.length c1_2), (.slice A1_3 l1_3.length c1_3), (.slice A1_4 l1_4.length c1_4)] 31 (0, 0))) ∧ Aside0 (Below w.heap.size w w'))
  case atStart => exact ⟨(0), (by first | rfl | (simp; done) | (simp [*]; done)), H', ⟨Nat.le_refl _⟩, ⟨Sq.kb BK103⟩, ⟨Sq.kb BK104⟩, ⟨Sq.kl2 HB GE103 GE104⟩⟩
  clear H'
  try clear c1
  try clear c2
  try clear p2
  try clear c6
  try clear c6b0
  try clear c6b1
  try clear c6b2
  try clear c7
  try clear c7b0
  try clear c7b1
  try clear c7b2
  try clear c8
  try clear c8b0
  try clear c8b1
  try clear c8b2
  try clear c10
  try clear c12
  try clear c15
  try clear c17
  try clear c18
  try clear c21
  try clear c24
  try clear c27
  try clear hcz13_0
  try clear hcz13_1
  try clear hcz13_2
  try clear hcz13_3
  try clear hcz13_4
  try clear hcz14_0
  try clear hcz14_1
  try clear hcz14_2
  try clear hcz14_3
  try clear hcz14_4
  try clear hcz16_0
  try clear hcz16_1
  try clear hcz16_2
  try clear hcz16_3
  try clear hcz16_4
  try clear hcz17_0
  try clear hcz17_1
  try clear hcz17_2
  try clear hcz17_3
  try clear hcz17_4
  try clear hcz19_0
  try clear hcz19_1
  try clear hcz19_2
  try clear hcz19_3
  try clear hcz19_4
  try clear hcz20_0
  try clear hcz20_1
  try clear hcz20_2
  try clear hcz20_3
  try clear hcz20_4
  try clear hcz22_0
  try clear hcz22_1
  try clear hcz22_2
  try clear hcz22_3
  try clear hcz22_4
  try clear hcz23_0
  try clear hcz23_1
  try clear hcz23_2
  try clear hcz23_3
  try clear hcz23_4
  try clear hcz25_0
  try clear hcz25_1
  try clear hcz25_2
  try clear hcz25_3
  try clear hcz25_4
  try clear hcz26_0
  try clear hcz26_1
  try clear hcz26_2
  try clear hcz26_3
  try clear hcz26_4
  try clear hfz13_0
  try clear hfz13_1
  try clear hfz13_2
  try clear hfz13_3
  try clear hfz13_4
  try clear hfz14_0
  try clear hfz14_1
  try clear hfz14_2
  try clear hfz14_3
  try clear hfz14_4
  try clear hfz16_0
  try clear hfz16_1
  try clear hfz16_2
  try clear hfz16_3
  try clear hfz16_4
  try clear hfz17_0
  try clear hfz17_1
  try clear hfz17_2
  try clear hfz17_3
  try clear hfz17_4
  try clear hfz19_0
  try clear hfz19_1
  try clear hfz19_2
  try clear hfz19_3
  try clear hfz19_4
  try clear hfz20_0
  try clear hfz20_1
  try clear hfz20_2
  try clear hfz20_3
  try clear hfz20_4
  try clear hfz22_0
  try clear hfz22_1
  try clear hfz22_2
  try clear hfz22_3
  try clear hfz22_4
  try clear hfz23_0
  try clear hfz23_1
  try clear hfz23_2
  try clear hfz23_3
  try clear hfz23_4
  try clear hfz25_0
  try clear hfz25_1
  try clear hfz25_2
  try clear hfz25_3
  try clear hfz25_4
  try clear hfz26_0
  try clear hfz26_1
  try clear hfz26_2
  try clear hfz26_3
  try clear hfz26_4
  try clear p2
  obtain ⟨x5_2, rfl, HA, HK2, BK103, BK104, HB⟩ := hrel
  cases gk with
  | zero => exact absurd HA.out (by simp [longcaseref06_Same.l0])
  | succ k2 =>
   have H := HA.out
   clear HA
   simp only [longcaseref06_Same.l0] at H
   by_cases c28 : x5_2 < (l0_0.length : Int)
   ·
    rw [if_pos c28] at H
    have c28b0 : decide (x5_2 < (l0_0.length : Int)) = true := decide_eq_true c28
    clear c28
    by_cases c29 : 0 ≤ x5_2
    rotate_left
    ·
     rw [if_neg c29] at H
     exact absurd H (by simp)
    rw [if_pos c29] at H
    have c29b0 : decide (0 ≤ x5_2) = true := decide_eq_true c29
    clear c29
    by_cases c30 : x5_2 < (l1_0.length : Int)
    rotate_left
    ·
     rw [if_neg c30] at H
     exact absurd H (by simp)
    rw [if_pos c30] at H
    have c30b0 : decide (x5_2 < (l1_0.length : Int)) = true := decide_eq_true c30
    clear c30
    by_cases c31 : (!(((rd_T56 l0_0 x5_2).f0) == ((rd_T56 l1_0 x5_2).f0)) || (!(((rd_T56 l0_0 x5_2).f1) == ((rd_T56 l1_0 x5_2).f1)) || (!((((rd_T56 l0_0 x5_2).f2).toList) == (((rd_T56 l1_0 x5_2).f2).toList))))) = true
    ·
     rw [if_pos c31] at H
     have c31b0 : (!(((rd_T56 l0_0 x5_2).f0) == ((rd_T56 l1_0 x5_2).f0)) || (!(((rd_T56 l0_0 x5_2).f1) == ((rd_T56 l1_0 x5_2).f1)) || (!((((rd_T56 l0_0 x5_2).f2).toList) == (((rd_T56 l1_0 x5_2).f2).toList))))) = true := c31
     clear c31
     obtain rfl := Option.some.inj H
     have hnb32 := NB103_104.out
     have hnc32 := NB104_103.out
     obtain ⟨hcz33_0, hcz33_1, hcz33_2, hcz33_3, hcz33_4⟩ := Sq.c5 BK103
     obtain ⟨hfz33_0, hfz33_1, hfz33_2, hfz33_3, hfz33_4⟩ := Sq.z5 BK103
     have p107 : 0 ≤ (x5_2 : Int) := of_decide_eq_true (by first | (with_reducible assumption) | assumption)
     have q107 : x5_2 < (l0_0.length : Int) := of_decide_eq_true (by first | (with_reducible assumption) | assumption)
     obtain ⟨ad107, e107, hx107_0, hx107_1, hx107_2⟩ := at_T56 HR0_0.out x5_2 p107 q107
     cases e107
     replace hx107_0 := (HB.out.cell (World.block_lt_of_cell? w _ hx107_0)).trans hx107_0
     replace hx107_1 := (HB.out.cell (World.block_lt_of_cell? w _ hx107_1)).trans hx107_1
     replace hx107_2 := (HB.out.cell (World.block_lt_of_cell? w _ hx107_2)).trans hx107_2
     replace p107 := eq_true p107
     replace q107 := eq_true q107
     obtain ⟨hcz34_0, hcz34_1, hcz34_2, hcz34_3, hcz34_4⟩ := Sq.c5 BK104
     obtain ⟨hfz34_0, hfz34_1, hfz34_2, hfz34_3, hfz34_4⟩ := Sq.z5 BK104
     have p108 : 0 ≤ (x5_2 : Int) := of_decide_eq_true (by first | (with_reducible assumption) | assumption)
     have q108 : x5_2 < (l1_0.length : Int) := of_decide_eq_true (by first | (with_reducible assumption) | assumption)
     obtain ⟨ad108, e108, hx108_0, hx108_1, hx108_2⟩ := at_T56 HR1_0.out x5_2 p108 q108
     cases e108
     replace hx108_0 := (HB.out.cell (World.block_lt_of_cell? w _ hx108_0)).trans hx108_0
     replace hx108_1 := (HB.out.cell (World.block_lt_of_cell? w _ hx108_1)).trans hx108_1
     replace hx108_2 := (HB.out.cell (World.block_lt_of_cell? w _ hx108_2)).trans hx108_2
     replace p108 := eq_true p108
     replace q108 := eq_true q108
     go_wp2
     repeat (go_quiet (fail); try go_wp2)
     go_ret
     exact ⟨by first | rfl | (simp [errW_none, errW_some] <;> rfl) | (simp [*, errW_none, errW_some] <;> rfl), by repeat (first | (with_reducible first | exact HB.out | apply below_alloc | apply pw_below_drewN | apply below_drew1 | refine below_set ?_ GE103.out | refine below_set ?_ GE104.out) | exact HB.out)⟩
    rw [if_neg c31] at H
    have c31b0 : (!(((rd_T56 l0_0 x5_2).f0) == ((rd_T56 l1_0 x5_2).f0)) || (!(((rd_T56 l0_0 x5_2).f1) == ((rd_T56 l1_0 x5_2).f1)) || (!((((rd_T56 l0_0 x5_2).f2).toList) == (((rd_T56 l1_0 x5_2).f2).toList))))) = false := by simpa using c31
    clear c31
    have H' := Aside0.mk H
    clear H
    have hnb35 := NB103_104.out
    have hnc35 := NB104_103.out
    obtain ⟨hcz36_0, hcz36_1, hcz36_2, hcz36_3, hcz36_4⟩ := Sq.c5 BK103
    obtain ⟨hfz36_0, hfz36_1, hfz36_2, hfz36_3, hfz36_4⟩ := Sq.z5 BK103
    have p107 : 0 ≤ (x5_2 : Int) := of_decide_eq_true (by first | (with_reducible assumption) | assumption)
    have q107 : x5_2 < (l0_0.length : Int) := of_decide_eq_true (by first | (with_reducible assumption) | assumption)
    obtain ⟨ad107, e107, hx107_0, hx107_1, hx107_2⟩ := at_T56 HR0_0.out x5_2 p107 q107
    cases e107
    replace hx107_0 := (HB.out.cell (World.block_lt_of_cell? w _ hx107_0)).trans hx107_0
    replace hx107_1 := (HB.out.cell (World.block_lt_of_cell? w _ hx107_1)).trans hx107_1
    replace hx107_2 := (HB.out.cell (World.block_lt_of_cell? w _ hx107_2)).trans hx107_2
    replace p107 := eq_true p107
    replace q107 := eq_true q107
    obtain ⟨hcz37_0, hcz37_1, hcz37_2, hcz37_3, hcz37_4⟩ := Sq.c5 BK104
    obtain ⟨hfz37_0, hfz37_1, hfz37_2, hfz37_3, hfz37_4⟩ := Sq.z5 BK104
    have p108 : 0 ≤ (x5_2 : Int) := of_decide_eq_true (by first | (with_reducible assumption) | assumption)
    have q108 : x5_2 < (l1_0.length : Int) := of_decide_eq_true (by first | (with_reducible assumption) | assumption)
    obtain ⟨ad108, e108, hx108_0, hx108_1, hx108_2⟩ := at_T56 HR1_0.out x5_2 p108 q108
    cases e108
    replace hx108_0 := (HB.out.cell (World.block_lt_of_cell? w _ hx108_0)).trans hx108_0
    replace hx108_1 := (HB.out.cell (World.block_lt_of_cell? w _ hx108_1)).trans hx108_1
    replace hx108_2 := (HB.out.cell (World.block_lt_of_cell? w _ hx108_2)).trans hx108_2
    replace p108 := eq_true p108
    replace q108 := eq_true q108
    go_wp2
    repeat (go_quiet (fail); try go_wp2)
    go_roundg k2
    case measure => have := HJ2.out; have := HK2.out; omega
    case rel => exact ⟨(wrap64 (x5_2 + 1)), (by first | rfl | (simp; done) | (simp [*]; done)), H', ⟨by have := HJ2.out; have := HK2.out; omega⟩, ⟨Sq.kb BK103⟩, ⟨Sq.kb BK104⟩, ⟨Sq.kl2 HB GE103 GE104⟩⟩
   rw [if_neg c28] at H
   have c28b0 : decide (x5_2 < (l0_0.length : Int)) = false := decide_eq_false c28
   clear c28
   have H' := Aside0.mk H
   clear H
   have hnb38 := NB103_104.out
   have hnc38 := NB104_103.out
   obtain ⟨hcz39_0, hcz39_1, hcz39_2, hcz39_3, hcz39_4⟩ := Sq.c5 BK103
   obtain ⟨hfz39_0, hfz39_1, hfz39_2, hfz39_3, hfz39_4⟩ := Sq.z5 BK103
   go_wp2
   repeat (go_quiet (fail); try go_wp2)
   go_loopg [6] k2 (fun kq v6 w' => ∃ (x6_3 : Int), v6 = .int .i64 x6_3 ∧ Aside0 (longcaseref06_Same.l1 kq x6_3 l0_0 l0_1 l0_2 l0_3 l0_4 l1_0 l1_1 l1_2 l1_3 l1_4 = some r) ∧ Aside0 (kq ≤ k2) ∧ Aside0 (w'.heap[gb103]? = some (.cells #[(.slice A0_0 l0_0.length c0_0), (.slice A0_1 l0_1.length c0_1), (.slice A0_2 l0_2.length c0_2), (.slice A0_3 l0_3.length c0_3), (.slice A0_4 l0_4.length c0_4)] 31 (0, 0))) ∧ Aside0 (w'.heap[gb104]? = some (.cells #[(.slice A1_0 l1_0.length c1_0), (.slice A1_1 l1_1.length c1_1), (.slice A1_2 l1_2.length c1_2), (.slice A1_3 l1_3.length c1_3), (.slice A1_4 l1_4.length c1_4)] 31 (0, 0))) ∧ Aside0 (Below w.heap.size w w'))
   case atStart => exact ⟨(0), (by first | rfl | (simp; done) | (simp [*]; done)), H', ⟨Nat.le_refl _⟩, ⟨Sq.kb BK103⟩, ⟨Sq.kb BK104⟩, ⟨Sq.kl2 HB GE103 GE104⟩⟩
   clear H'
   try clear c1
   try clear p1
   try clear q1
   try clear hx1
   try clear c2
   try clear p2
   try clear c3
   try clear c6
   try clear c6b0
   try clear c6b1
   try clear c6b2
   try clear p6
   try clear c7
   try clear c7b0
   try clear c7b1
   try clear c7b2
   try clear c8
   try clear c8b0
   try clear c8b1
   try clear c8b2
   try clear c10
   try clear p10
   try clear q10
   try clear hx10
   try clear c12
   try clear c15
   try clear c17
   try clear c18
   try clear c21
   try clear c24
   try clear c27
   try clear c28
   try clear c28b0
   try clear c29
   try clear c29b0
   try clear c30
   try clear c30b0
   try clear c31
   try clear c31b0
   try clear c32
   try clear c35
   try clear c38
   try clear hcz13_0
   try clear hcz13_1
   try clear hcz13_2
   try clear hcz13_3
   try clear hcz13_4
   try clear hcz14_0
   try clear hcz14_1
   try clear hcz14_2
   try clear hcz14_3
   try clear hcz14_4
   try clear hcz16_0
   try clear hcz16_1
   try clear hcz16_2
   try clear hcz16_3
   try clear hcz16_4
   try clear hcz17_0
   try clear hcz17_1
   try clear hcz17_2
   try clear hcz17_3
   try clear hcz17_4
   try clear hcz19_0
   try clear hcz19_1
   try clear hcz19_2
   try clear hcz19_3
   try clear hcz19_4
   try clear hcz20_0
   try clear hcz20_1
   try clear hcz20_2
   try clear hcz20_3
   try clear hcz20_4
   try clear hcz22_0
   try clear hcz22_1
   try clear hcz22_2
   try clear hcz22_3
   try clear hcz22_4
   try clear hcz23_0
   try clear hcz23_1
   try clear hcz23_2
   try clear hcz23_3
   try clear hcz23_4
   try clear hcz25_0
   try clear hcz25_1
   try clear hcz25_2
   try clear hcz25_3
   try clear hcz25_4
   try clear hcz26_0
   try clear hcz26_1
   try clear hcz26_2
   try clear hcz26_3
   try clear hcz26_4
   try clear hcz33_0
   try clear hcz33_1
   try clear hcz33_2
   try clear hcz33_3
   try clear hcz33_4
   try clear hcz34_0
   try clear hcz34_1
   try clear hcz34_2
   try clear hcz34_3
   try clear hcz34_4
   try clear hcz36_0
   try clear hcz36_1
   try clear hcz36_2
   try clear hcz36_3
   try clear hcz36_4
   try clear hcz37_0
   try clear hcz37_1
   try clear hcz37_2
   try clear hcz37_3
   try clear hcz37_4
   try clear hcz39_0
   try clear hcz39_1
   try clear hcz39_2
   try clear hcz39_3
   try clear hcz39_4
   try clear hfz13_0
   try clear hfz13_1
   try clear hfz13_2
   try clear hfz13_3
   try clear hfz13_4
   try clear hfz14_0
   try clear hfz14_1
   try clear hfz14_2
   try clear hfz14_3
   try clear hfz14_4
   try clear hfz16_0
   try clear hfz16_1
   try clear hfz16_2
   try clear hfz16_3
   try clear hfz16_4
   try clear hfz17_0
   try clear hfz17_1
   try clear hfz17_2
   try clear hfz17_3
   try clear hfz17_4
   try clear hfz19_0
   try clear hfz19_1
   try clear hfz19_2
   try clear hfz19_3
   try clear hfz19_4
   try clear hfz20_0
   try clear hfz20_1
   try clear hfz20_2
   try clear hfz20_3
   try clear hfz20_4
   try clear hfz22_0
   try clear hfz22_1
   try clear hfz22_2
   try clear hfz22_3
   try clear hfz22_4
   try clear hfz23_0
   try clear hfz23_1
   try clear hfz23_2
   try clear hfz23_3
   try clear hfz23_4
   try clear hfz25_0
   try clear hfz25_1
   try clear hfz25_2
   try clear hfz25_3
   try clear hfz25_4
   try clear hfz26_0
   try clear hfz26_1
   try clear hfz26_2
   try clear hfz26_3
   try clear hfz26_4
   try clear hfz33_0
   try clear hfz33_1
   try clear hfz33_2
   try clear hfz33_3
   try clear hfz33_4
   try clear hfz34_0
   try clear hfz34_1
   try clear hfz34_2
   try clear hfz34_3
   try clear hfz34_4
   try clear hfz36_0
   try clear hfz36_1
   try clear hfz36_2
   try clear hfz36_3
   try clear hfz36_4
   try clear hfz37_0
   try clear hfz37_1
   try clear hfz37_2
   try clear hfz37_3
   try clear hfz37_4
   try clear hfz39_0
   try clear hfz39_1
   try clear hfz39_2
   try clear hfz39_3
   try clear hfz39_4
   try clear hx107_0
   try clear hx107_1
   try clear hx107_2
   try clear hx108_0
   try clear hx108_1
   try clear hx108_2
   try clear p107
   try clear p108
   try clear p2
   try clear q107
   try clear q108
   obtain ⟨x6_3, rfl, HA, HK3, BK103, BK104, HB⟩ := hrel
   cases gk with
   | zero => exact absurd HA.out (by simp [longcaseref06_Same.l1])
   | succ k3 =>
    have H := HA.out
    clear HA
    simp only [longcaseref06_Same.l1] at H
    by_cases c40 : x6_3 < (l0_1.length : Int)
    ·
     rw [if_pos c40] at H
     have c40b0 : decide (x6_3 < (l0_1.length : Int)) = true := decide_eq_true c40
     clear c40
     by_cases c41 : 0 ≤ x6_3
     rotate_left
     ·
      rw [if_neg c41] at H
      exact absurd H (by simp)
     rw [if_pos c41] at H
     have c41b0 : decide (0 ≤ x6_3) = true := decide_eq_true c41
     clear c41
     by_cases c42 : x6_3 < (l1_1.length : Int)
     rotate_left
     ·
      rw [if_neg c42] at H
      exact absurd H (by simp)
     rw [if_pos c42] at H
     have c42b0 : decide (x6_3 < (l1_1.length : Int)) = true := decide_eq_true c42
     clear c42
     by_cases c43 : (!(((rd_T54 l0_1 x6_3).f0) == ((rd_T54 l1_1 x6_3).f0)) || (!(((rd_T54 l0_1 x6_3).f1) == ((rd_T54 l1_1 x6_3).f1)))) = true
     ·
      rw [if_pos c43] at H
      have c43b0 : (!(((rd_T54 l0_1 x6_3).f0) == ((rd_T54 l1_1 x6_3).f0)) || (!(((rd_T54 l0_1 x6_3).f1) == ((rd_T54 l1_1 x6_3).f1)))) = true := c43
      clear c43
      obtain rfl := Option.some.inj H
      have hnb44 := NB103_104.out
      have hnc44 := NB104_103.out
      obtain ⟨hcz45_0, hcz45_1, hcz45_2, hcz45_3, hcz45_4⟩ := Sq.c5 BK103
      obtain ⟨hfz45_0, hfz45_1, hfz45_2, hfz45_3, hfz45_4⟩ := Sq.z5 BK103
      have p109 : 0 ≤ (x6_3 : Int) := of_decide_eq_true (by first | (with_reducible assumption) | assumption)
      have q109 : x6_3 < (l0_1.length : Int) := of_decide_eq_true (by first | (with_reducible assumption) | assumption)
      obtain ⟨ad109, e109, hx109_0, hx109_1⟩ := at_T54 HR0_1.out x6_3 p109 q109
      cases e109
      replace hx109_0 := (HB.out.cell (World.block_lt_of_cell? w _ hx109_0)).trans hx109_0
      replace hx109_1 := (HB.out.cell (World.block_lt_of_cell? w _ hx109_1)).trans hx109_1
      replace p109 := eq_true p109
      replace q109 := eq_true q109
      obtain ⟨hcz46_0, hcz46_1, hcz46_2, hcz46_3, hcz46_4⟩ := Sq.c5 BK104
      obtain ⟨hfz46_0, hfz46_1, hfz46_2, hfz46_3, hfz46_4⟩ := Sq.z5 BK104
      have p110 : 0 ≤ (x6_3 : Int) := of_decide_eq_true (by first | (with_reducible assumption) | assumption)
      have q110 : x6_3 < (l1_1.length : Int) := of_decide_eq_true (by first | (with_reducible assumption) | assumption)
      obtain ⟨ad110, e110, hx110_0, hx110_1⟩ := at_T54 HR1_1.out x6_3 p110 q110
      cases e110
      replace hx110_0 := (HB.out.cell (World.block_lt_of_cell? w _ hx110_0)).trans hx110_0
      replace hx110_1 := (HB.out.cell (World.block_lt_of_cell? w _ hx110_1)).trans hx110_1
      replace p110 := eq_true p110
      replace q110 := eq_true q110
      go_wp2
      repeat (go_quiet (fail); try go_wp2)
      go_ret
      exact ⟨by first | rfl | (simp [errW_none, errW_some] <;> rfl) | (simp [*, errW_none, errW_some] <;> rfl), by repeat (first | (with_reducible first | exact HB.out | apply below_alloc | apply pw_below_drewN | apply below_drew1 | refine below_set ?_ GE103.out | refine below_set ?_ GE104.out) | exact HB.out)⟩
     rw [if_neg c43] at H
     have c43b0 : (!(((rd_T54 l0_1 x6_3).f0) == ((rd_T54 l1_1 x6_3).f0)) || (!(((rd_T54 l0_1 x6_3).f1) == ((rd_T54 l1_1 x6_3).f1)))) = false := by simpa using c43
     clear c43
     have H' := Aside0.mk H
     clear H
     have hnb47 := NB103_104.out
     have hnc47 := NB104_103.out
     obtain ⟨hcz48_0, hcz48_1, hcz48_2, hcz48_3, hcz48_4⟩ := Sq.c5 BK103
     obtain ⟨hfz48_0, hfz48_1, hfz48_2, hfz48_3, hfz48_4⟩ := Sq.z5 BK103
     have p109 : 0 ≤ (x6_3 : Int) := of_decide_eq_true (by first | (with_reducible assumption) | assumption)
     have q109 : x6_3 < (l0_1.length : Int) := of_decide_eq_true (by first | (with_reducible assumption) | assumption)
     obtain ⟨ad109, e109, hx109_0, hx109_1⟩ := at_T54 HR0_1.out x6_3 p109 q109
     cases e109
     replace hx109_0 := (HB.out.cell (World.block_lt_of_cell? w _ hx109_0)).trans hx109_0
     replace hx109_1 := (HB.out.cell (World.block_lt_of_cell? w _ hx109_1)).trans hx109_1
     replace p109 := eq_true p109
     replace q109 := eq_true q109
     obtain ⟨hcz49_0, hcz49_1, hcz49_2, hcz49_3, hcz49_4⟩ := Sq.c5 BK104
     obtain ⟨hfz49_0, hfz49_1, hfz49_2, hfz49_3, hfz49_4⟩ := Sq.z5 BK104
     have p110 : 0 ≤ (x6_3 : Int) := of_decide_eq_true (by first | (with_reducible assumption) | assumption)
     have q110 : x6_3 < (l1_1.length : Int) := of_decide_eq_true (by first | (with_reducible assumption) | assumption)
     obtain ⟨ad110, e110, hx110_0, hx110_1⟩ := at_T54 HR1_1.out x6_3 p110 q110
     cases e110
     replace hx110_0 := (HB.out.cell (World.block_lt_of_cell? w _ hx110_0)).trans hx110_0
     replace hx110_1 := (HB.out.cell (World.block_lt_of_cell? w _ hx110_1)).trans hx110_1
     replace p110 := eq_true p110
     replace q110 := eq_true q110
     go_wp2
     repeat (go_quiet (fail); try go_wp2)
     go_roundg k3
     case measure => have := HJ2.out; have := HK2.out; have := HK3.out; omega
     case rel => exact ⟨(wrap64 (x6_3 + 1)), (by first | rfl | (simp; done) | (simp [*]; done)), H', ⟨by have := HJ2.out; have := HK2.out; have := HK3.out; omega⟩, ⟨Sq.kb BK103⟩, ⟨Sq.kb BK104⟩, ⟨Sq.kl2 HB GE103 GE104⟩⟩
    rw [if_neg c40] at H
    have c40b0 : decide (x6_3 < (l0_1.length : Int)) = false := decide_eq_false c40
    clear c40
    have H' := Aside0.mk H
    clear H
    have hnb50 := NB103_104.out
    have hnc50 := NB104_103.out
    obtain ⟨hcz51_0, hcz51_1, hcz51_2, hcz51_3, hcz51_4⟩ := Sq.c5 BK103
    obtain ⟨hfz51_0, hfz51_1, hfz51_2, hfz51_3, hfz51_4⟩ := Sq.z5 BK103
    go_wp2
    repeat (go_quiet (fail); try go_wp2)
    go_loopg [7] k3 (fun kq v7 w' => ∃ (x7_4 : Int), v7 = .int .i64 x7_4 ∧ Aside0 (longcaseref06_Same.l2 kq x7_4 l0_0 l0_1 l0_2 l0_3 l0_4 l1_0 l1_1 l1_2 l1_3 l1_4 = some r) ∧ Aside0 (kq ≤ k3) ∧ Aside0 (w'.heap[gb103]? = some (.cells #[(.slice A0_0 l0_0.length c0_0), (.slice A0_1 l0_1.length c0_1), (.slice A0_2 l0_2.length c0_2), (.slice A0_3 l0_3.length c0_3), (.slice A0_4 l0_4.length c0_4)] 31 (0, 0))) ∧ Aside0 (w'.heap[gb104]? = some (.cells #[(.slice A1_0 l1_0.length c1_0), (.slice A1_1 l1_1.length c1_1), (.slice A1_2 l1_2.length c1_2), (.slice A1_3 l1_3.length c1_3), (.slice A1_4 l1_4.length c1_4)] 31 (0, 0))) ∧ Aside0 (Below w.heap.size w w'))
    case atStart => exact ⟨(0), (by first | rfl | (simp; done) | (simp [*]; done)), H', ⟨Nat.le_refl _⟩, ⟨Sq.kb BK103⟩, ⟨Sq.kb BK104⟩, ⟨Sq.kl2 HB GE103 GE104⟩⟩
    clear H'
    try clear c1
    try clear p1
    try clear q1
    try clear hx1
    try clear c2
    try clear p2
    try clear c3
    try clear c4
    try clear c5
    try clear c6
    try clear c6b0
    try clear c6b1
    try clear c6b2
    try clear p6
    try clear c7
    try clear c7b0
    try clear c7b1
    try clear c7b2
    try clear c8
    try clear c8b0
    try clear c8b1
    try clear c8b2
    try clear c10
    try clear p10
    try clear q10
    try clear hx10
    try clear p11
    try clear q11
    try clear hx11
    try clear c12
    try clear c15
    try clear c17
    try clear c18
    try clear c21
    try clear c24
    try clear c27
    try clear c28
    try clear c28b0
    try clear c29
    try clear c29b0
    try clear c30
    try clear c30b0
    try clear c31
    try clear c31b0
    try clear c32
    try clear c35
    try clear c38
    try clear c40
    try clear c40b0
    try clear c41
    try clear c41b0
    try clear c42
    try clear c42b0
    try clear c43
    try clear c43b0
    try clear c44
    try clear c47
    try clear c50
    try clear hcz13_0
    try clear hcz13_1
    try clear hcz13_2
    try clear hcz13_3
    try clear hcz13_4
    try clear hcz14_0
    try clear hcz14_1
    try clear hcz14_2
    try clear hcz14_3
    try clear hcz14_4
    try clear hcz16_0
    try clear hcz16_1
    try clear hcz16_2
    try clear hcz16_3
    try clear hcz16_4
    try clear hcz17_0
    try clear hcz17_1
    try clear hcz17_2
    try clear hcz17_3
    try clear hcz17_4
    try clear hcz19_0
    try clear hcz19_1
    try clear hcz19_2
    try clear hcz19_3
    try clear hcz19_4
    try clear hcz20_0
    try clear hcz20_1
    try clear hcz20_2
    try clear hcz20_3
    try clear hcz20_4
    try clear hcz22_0
    try clear hcz22_1
    try clear hcz22_2
    try clear hcz22_3
    try clear hcz22_4
    try clear hcz23_0
    try clear hcz23_1
    try clear hcz23_2
    try clear hcz23_3
    try clear hcz23_4
    try clear hcz25_0
    try clear hcz25_1
    try clear hcz25_2
    try clear hcz25_3
    try clear hcz25_4
    try clear hcz26_0
    try clear hcz26_1
    try clear hcz26_2
    try clear hcz26_3
    try clear hcz26_4
    try clear hcz33_0
    try clear hcz33_1
    try clear hcz33_2
    try clear hcz33_3
    try clear hcz33_4
    try clear hcz34_0
    try clear hcz34_1
    try clear hcz34_2
    try clear hcz34_3
    try clear hcz34_4
    try clear hcz36_0
    try clear hcz36_1
    try clear hcz36_2
    try clear hcz36_3
    try clear hcz36_4
    try clear hcz37_0
    try clear hcz37_1
    try clear hcz37_2
    try clear hcz37_3
    try clear hcz37_4
    try clear hcz39_0
    try clear hcz39_1
    try clear hcz39_2
    try clear hcz39_3
    try clear hcz39_4
    try clear hcz45_0
    try clear hcz45_1
    try clear hcz45_2
    try clear hcz45_3
    try clear hcz45_4
    try clear hcz46_0
    try clear hcz46_1
    try clear hcz46_2
    try clear hcz46_3
    try clear hcz46_4
    try clear hcz48_0
    try clear hcz48_1
    try clear hcz48_2
    try clear hcz48_3
    try clear hcz48_4
    try clear hcz49_0
    try clear hcz49_1
    try clear hcz49_2
    try clear hcz49_3
    try clear hcz49_4
    try clear hcz51_0
    try clear hcz51_1
    try clear hcz51_2
    try clear hcz51_3
    try clear hcz51_4
    try clear hfz13_0
    try clear hfz13_1
    try clear hfz13_2
    try clear hfz13_3
    try clear hfz13_4
    try clear hfz14_0
    try clear hfz14_1
    try clear hfz14_2
    try clear hfz14_3
    try clear hfz14_4
    try clear hfz16_0
    try clear hfz16_1
    try clear hfz16_2
    try clear hfz16_3
    try clear hfz16_4
    try clear hfz17_0
    try clear hfz17_1
    try clear hfz17_2
    try clear hfz17_3
    try clear hfz17_4
    try clear hfz19_0
    try clear hfz19_1
    try clear hfz19_2
    try clear hfz19_3
    try clear hfz19_4
    try clear hfz20_0
    try clear hfz20_1
    try clear hfz20_2
    try clear hfz20_3
    try clear hfz20_4
    try clear hfz22_0
    try clear hfz22_1
    try clear hfz22_2
    try clear hfz22_3
    try clear hfz22_4
    try clear hfz23_0
    try clear hfz23_1
    try clear hfz23_2
    try clear hfz23_3
    try clear hfz23_4
    try clear hfz25_0
    try clear hfz25_1
    try clear hfz25_2
    try clear hfz25_3
    try clear hfz25_4
    try clear hfz26_0
    try clear hfz26_1
    try clear hfz26_2
    try clear hfz26_3
    try clear hfz26_4
    try clear hfz33_0
    try clear hfz33_1
    try clear hfz33_2
    try clear hfz33_3
    try clear hfz33_4
    try clear hfz34_0
    try clear hfz34_1
    try clear hfz34_2
    try clear hfz34_3
    try clear hfz34_4
    try clear hfz36_0
    try clear hfz36_1
    try clear hfz36_2
    try clear hfz36_3
    try clear hfz36_4
    try clear hfz37_0
    try clear hfz37_1
    try clear hfz37_2
    try clear hfz37_3
    try clear hfz37_4
    try clear hfz39_0
    try clear hfz39_1
    try clear hfz39_2
    try clear hfz39_3
    try clear hfz39_4
    try clear hfz45_0
    try clear hfz45_1
    try clear hfz45_2
    try clear hfz45_3
    try clear hfz45_4
    try clear hfz46_0
    try clear hfz46_1
    try clear hfz46_2
    try clear hfz46_3
    try clear hfz46_4
    try clear hfz48_0
    try clear hfz48_1
    try clear hfz48_2
    try clear hfz48_3
    try clear hfz48_4
    try clear hfz49_0
    try clear hfz49_1
    try clear hfz49_2
    try clear hfz49_3
    try clear hfz49_4
    try clear hfz51_0
    try clear hfz51_1
    try clear hfz51_2
    try clear hfz51_3
    try clear hfz51_4
    try clear hx107_0
    try clear hx107_1
    try clear hx107_2
    try clear hx108_0
    try clear hx108_1
    try clear hx108_2
    try clear hx109_0
    try clear hx109_1
    try clear hx110_0
    try clear hx110_1
    try clear p1
    try clear p10
    try clear p107
    try clear p108
    try clear p109
    try clear p110
    try clear p2
    try clear p6
    try clear q1
    try clear q10
    try clear q107
    try clear q108
    try clear q109
    try clear q110
    obtain ⟨x7_4, rfl, HA, HK4, BK103, BK104, HB⟩ := hrel
    cases gk with
    | zero => exact absurd HA.out (by simp [longcaseref06_Same.l2])
    | succ k4 =>
     have H := HA.out
     clear HA
     simp only [longcaseref06_Same.l2] at H
     by_cases c52 : x7_4 < (l0_2.length : Int)
     rotate_left
     ·
      rw [if_neg c52] at H
      have c52b0 : decide (x7_4 < (l0_2.length : Int)) = false := decide_eq_false c52
      clear c52
      obtain rfl := Option.some.inj H
      have hnb62 := NB103_104.out
      have hnc62 := NB104_103.out
      obtain ⟨hcz63_0, hcz63_1, hcz63_2, hcz63_3, hcz63_4⟩ := Sq.c5 BK103
      obtain ⟨hfz63_0, hfz63_1, hfz63_2, hfz63_3, hfz63_4⟩ := Sq.z5 BK103
      go_wp2
      repeat (go_quiet (fail); try go_wp2)
      go_ret
      exact ⟨by first | rfl | (simp [errW_none, errW_some] <;> rfl) | (simp [*, errW_none, errW_some] <;> rfl), by repeat (first | (with_reducible first | exact HB.out | apply below_alloc | apply pw_below_drewN | apply below_drew1 | refine below_set ?_ GE103.out | refine below_set ?_ GE104.out) | exact HB.out)⟩
     rw [if_pos c52] at H
     have c52b0 : decide (x7_4 < (l0_2.length : Int)) = true := decide_eq_true c52
     clear c52
     by_cases c53 : 0 ≤ x7_4
     rotate_left
     ·
      rw [if_neg c53] at H
      exact absurd H (by simp)
     rw [if_pos c53] at H
     have c53b0 : decide (0 ≤ x7_4) = true := decide_eq_true c53
     clear c53
     by_cases c54 : x7_4 < (l1_2.length : Int)
     rotate_left
     ·
      rw [if_neg c54] at H
      exact absurd H (by simp)
     rw [if_pos c54] at H
     have c54b0 : decide (x7_4 < (l1_2.length : Int)) = true := decide_eq_true c54
     clear c54
     by_cases c55 : (!(((rd_T67 l0_2 x7_4).f0) == ((rd_T67 l1_2 x7_4).f0)) || (!(((rd_T67 l0_2 x7_4).f1) == ((rd_T67 l1_2 x7_4).f1)))) = true
     ·
      rw [if_pos c55] at H
      have c55b0 : (!(((rd_T67 l0_2 x7_4).f0) == ((rd_T67 l1_2 x7_4).f0)) || (!(((rd_T67 l0_2 x7_4).f1) == ((rd_T67 l1_2 x7_4).f1)))) = true := c55
      clear c55
      obtain rfl := Option.some.inj H
      have hnb56 := NB103_104.out
      have hnc56 := NB104_103.out
      obtain ⟨hcz57_0, hcz57_1, hcz57_2, hcz57_3, hcz57_4⟩ := Sq.c5 BK103
      obtain ⟨hfz57_0, hfz57_1, hfz57_2, hfz57_3, hfz57_4⟩ := Sq.z5 BK103
      have p111 : 0 ≤ (x7_4 : Int) := of_decide_eq_true (by first | (with_reducible assumption) | assumption)
      have q111 : x7_4 < (l0_2.length : Int) := of_decide_eq_true (by first | (with_reducible assumption) | assumption)
      obtain ⟨ad111, e111, hx111_0, hx111_1⟩ := at_T67 HR0_2.out x7_4 p111 q111
      cases e111
      replace hx111_0 := (HB.out.cell (World.block_lt_of_cell? w _ hx111_0)).trans hx111_0
      replace hx111_1 := (HB.out.cell (World.block_lt_of_cell? w _ hx111_1)).trans hx111_1
      replace p111 := eq_true p111
      replace q111 := eq_true q111
      obtain ⟨hcz58_0, hcz58_1, hcz58_2, hcz58_3, hcz58_4⟩ := Sq.c5 BK104
      obtain ⟨hfz58_0, hfz58_1, hfz58_2, hfz58_3, hfz58_4⟩ := Sq.z5 BK104
      have p112 : 0 ≤ (x7_4 : Int) := of_decide_eq_true (by first | (with_reducible assumption) | assumption)
      have q112 : x7_4 < (l1_2.length : Int) := of_decide_eq_true (by first | (with_reducible assumption) | assumption)
      obtain ⟨ad112, e112, hx112_0, hx112_1⟩ := at_T67 HR1_2.out x7_4 p112 q112
      cases e112
      replace hx112_0 := (HB.out.cell (World.block_lt_of_cell? w _ hx112_0)).trans hx112_0
      replace hx112_1 := (HB.out.cell (World.block_lt_of_cell? w _ hx112_1)).trans hx112_1
      replace p112 := eq_true p112
      replace q112 := eq_true q112
      go_wp2
      repeat (go_quiet (fail); try go_wp2)
      go_ret
      exact ⟨by first | rfl | (simp [errW_none, errW_some] <;> rfl) | (simp [*, errW_none, errW_some] <;> rfl), by repeat (first | (with_reducible first | exact HB.out | apply below_alloc | apply pw_below_drewN | apply below_drew1 | refine below_set ?_ GE103.out | refine below_set ?_ GE104.out) | exact HB.out)⟩
     rw [if_neg c55] at H
     have c55b0 : (!(((rd_T67 l0_2 x7_4).f0) == ((rd_T67 l1_2 x7_4).f0)) || (!(((rd_T67 l0_2 x7_4).f1) == ((rd_T67 l1_2 x7_4).f1)))) = false := by simpa using c55
     clear c55
     have H' := Aside0.mk H
     clear H
     have hnb59 := NB103_104.out
     have hnc59 := NB104_103.out
     obtain ⟨hcz60_0, hcz60_1, hcz60_2, hcz60_3, hcz60_4⟩ := Sq.c5 BK103
     obtain ⟨hfz60_0, hfz60_1, hfz60_2, hfz60_3, hfz60_4⟩ := Sq.z5 BK103
     have p111 : 0 ≤ (x7_4 : Int) := of_decide_eq_true (by first | (with_reducible assumption) | assumption)
     have q111 : x7_4 < (l0_2.length : Int) := of_decide_eq_true (by first | (with_reducible assumption) | assumption)
     obtain ⟨ad111, e111, hx111_0, hx111_1⟩ := at_T67 HR0_2.out x7_4 p111 q111
     cases e111
     replace hx111_0 := (HB.out.cell (World.block_lt_of_cell? w _ hx111_0)).trans hx111_0
     replace hx111_1 := (HB.out.cell (World.block_lt_of_cell? w _ hx111_1)).trans hx111_1
     replace p111 := eq_true p111
     replace q111 := eq_true q111
     obtain ⟨hcz61_0, hcz61_1, hcz61_2, hcz61_3, hcz61_4⟩ := Sq.c5 BK104
     obtain ⟨hfz61_0, hfz61_1, hfz61_2, hfz61_3, hfz61_4⟩ := Sq.z5 BK104
     have p112 : 0 ≤ (x7_4 : Int) := of_decide_eq_true (by first | (with_reducible assumption) | assumption)
     have q112 : x7_4 < (l1_2.length : Int) := of_decide_eq_true (by first | (with_reducible assumption) | assumption)
     obtain ⟨ad112, e112, hx112_0, hx112_1⟩ := at_T67 HR1_2.out x7_4 p112 q112
     cases e112
     replace hx112_0 := (HB.out.cell (World.block_lt_of_cell? w _ hx112_0)).trans hx112_0
     replace hx112_1 := (HB.out.cell (World.block_lt_of_cell? w _ hx112_1)).trans hx112_1
     replace p112 := eq_true p112
     replace q112 := eq_true q112
     go_wp2
     repeat (go_quiet (fail); try go_wp2)
     go_roundg k4
     case measure => have := HJ2.out; have := HK2.out; have := HK3.out; have := HK4.out; omega
     case rel => exact ⟨(wrap64 (x7_4 + 1)), (by first | rfl | (simp; done) | (simp [*]; done)), H', ⟨by have := HJ2.out; have := HK2.out; have := HK3.out; have := HK4.out; omega⟩, ⟨Sq.kb BK103⟩, ⟨Sq.kb BK104⟩, ⟨Sq.kl2 HB GE103 GE104⟩⟩
end Go.Proofs.Ythobnoknbdljgaa.PM
end
section
namespace Go.Proofs.Ythobnoknbdljgaa
open Go.RowKit Hand PB0 Go.Proofs.YthobnoknbdljgaaW.PrintWords
instance : DecidableEq S56 := fun a b => decidable_of_iff (a.f0 = b.f0 ∧ a.f1 = b.f1 ∧ a.f2.data.toList = b.f2.data.toList) (by
 obtain ⟨a0, a1, ⟨⟨a2⟩⟩⟩ := a
 obtain ⟨b0, b1, ⟨⟨b2⟩⟩⟩ := b
 simp)
instance : DecidableEq S54 := fun a b => decidable_of_iff (a.f0 = b.f0 ∧ a.f1 = b.f1) (by
 cases a; cases b; simp)
instance : DecidableEq S67 := fun a b => decidable_of_iff (a.f0 = b.f0 ∧ a.f1 = b.f1) (by
 cases a; cases b; simp)
theorem ba_eq (x y : ByteArray) : (x.toList == y.toList) = decide (x = y) := by
 rw [ByteArray.toList_eq, ByteArray.toList_eq]
 by_cases h : x = y
 ·
  subst h; simp
 ·
  have : x.data.toList ≠ y.data.toList := fun e => h (by
   obtain ⟨⟨x⟩⟩ := x
   obtain ⟨⟨y⟩⟩ := y
   exact congrArg (fun l : List UInt8 => (⟨⟨l⟩⟩ : ByteArray)) e)
  rw [decide_eq_false h]
  exact beq_eq_false_iff_ne.2 this
theorem ne67 (x y : S67) : (!(x.f0 == y.f0) || !(x.f1 == y.f1)) = !decide (x = y) := by
 obtain ⟨x0, x1⟩ := x
 obtain ⟨y0, y1⟩ := y
 by_cases h0 : x0 = y0 <;> by_cases h1 : x1 = y1 <;> simp [h0, h1]
theorem ne54 (x y : S54) : (!(x.f0 == y.f0) || !(x.f1 == y.f1)) = !decide (x = y) := by
 obtain ⟨x0, x1⟩ := x
 obtain ⟨y0, y1⟩ := y
 by_cases h0 : x0 = y0 <;> by_cases h1 : x1 = y1 <;> simp [h0, h1]
theorem ne56 (x y : S56) : (!(x.f0 == y.f0) || (!(x.f1 == y.f1) || !(x.f2.toList == y.f2.toList))) = !decide (x = y) := by
 rw [ba_eq]
 obtain ⟨x0, x1, x2⟩ := x
 obtain ⟨y0, y1, y2⟩ := y
 by_cases h0 : x0 = y0 <;> by_cases h1 : x1 = y1 <;> by_cases h2 : x2 = y2 <;> simp [h0, h1, h2]
def sameB (a0 : List S56) (a1 : List S54) (a2 : List S67) (a3 a4 : List Bool) (b0 : List S56) (b1 : List S54) (b2 : List S67) (b3 b4 : List Bool) : Bool :=
 decide (a0 = b0 ∧ a1 = b1 ∧ a2 = b2 ∧ a3 = b3 ∧ a4 = b4)
theorem cons_dec {α : Type} [DecidableEq α] (x y : α) (xs ys : List α) : decide (x :: xs = y :: ys) = (decide (x = y) && decide (xs = ys)) := by
 by_cases h : x = y
 ·
  subst h; simp
 ·
  simp [h]
theorem bools_l (a b : List Bool) (hab : a.length = b.length) (ha : a.length ≤ 1000000) (d : Nat) : ∀ (k i : Nat), i + d = a.length → d < k → PM.longcaseref06_bools.l0 k a b i = some (decide (a.drop i = b.drop i)) := by
 induction d with
 | zero =>
  intro k i hi hk
  obtain ⟨k, rfl⟩ : ∃ q, k = q + 1 := ⟨k - 1, by omega⟩
  rw [PM.longcaseref06_bools.l0, if_neg (by omega), List.drop_of_length_le (by omega), List.drop_of_length_le (by omega)]
  rfl
 | succ d ih =>
  intro k i hi hk
  obtain ⟨k, rfl⟩ : ∃ q, k = q + 1 := ⟨k - 1, by omega⟩
  have h1 : i < a.length := by omega
  have h2 : i < b.length := by omega
  have e1 : rdOf false a (i : Int) = a[i] := by unfold rdOf; rw [Int.toNat_natCast, List.getD_eq_getElem?_getD, List.getElem?_eq_getElem h1]; rfl
  have e2 : rdOf false b (i : Int) = b[i] := by unfold rdOf; rw [Int.toNat_natCast, List.getD_eq_getElem?_getD, List.getElem?_eq_getElem h2]; rfl
  rw [PM.longcaseref06_bools.l0, if_pos (by omega), if_pos (by omega), if_pos (by omega), e1, e2, List.drop_eq_getElem_cons h1, List.drop_eq_getElem_cons h2, cons_dec, show wrap64 ((i : Int) + 1) = ((i + 1 : Nat) : Int) by rw [w64 (by omega) (by omega)]; omega, ih k (i + 1) (by omega) (by omega)]
  by_cases e : a[i] = b[i]
  ·
   rw [if_neg (by simp [e]), decide_eq_true e, Bool.true_and]
  ·
   rw [if_pos (by simp [e]), decide_eq_false e, Bool.false_and]
theorem bools_f (k : Nat) (a b : List Bool) (ha : a.length ≤ 1000000) (hk : a.length < k) : PM.longcaseref06_bools.f k a b = some (decide (a = b)) := by
 unfold PM.longcaseref06_bools.f
 by_cases h : a.length = b.length
 ·
  rw [if_pos (by omega)]
  have := bools_l a b h ha a.length k 0 (by omega) hk
  simpa using this
 ·
  rw [if_neg (by omega), decide_eq_false (fun e => h (by rw [e]))]
section
variable (a0 : List S56) (a1 : List S54) (a2 : List S67) (a3 a4 : List Bool) (b0 : List S56) (b1 : List S54) (b2 : List S67) (b3 b4 : List Bool)
theorem same_l2 (h2 : a2.length = b2.length) (ha : a2.length ≤ 1000000) (d : Nat) : ∀ (k i : Nat), i + d = a2.length → d < k → PM.longcaseref06_Same.l2 k i a0 a1 a2 a3 a4 b0 b1 b2 b3 b4 = some (decide (a2.drop i = b2.drop i)) := by
 induction d with
 | zero =>
  intro k i hi hk
  obtain ⟨k, rfl⟩ : ∃ q, k = q + 1 := ⟨k - 1, by omega⟩
  rw [PM.longcaseref06_Same.l2, if_neg (by omega), List.drop_of_length_le (by omega), List.drop_of_length_le (by omega)]
  rfl
 | succ d ih =>
  intro k i hi hk
  obtain ⟨k, rfl⟩ : ∃ q, k = q + 1 := ⟨k - 1, by omega⟩
  have q1 : i < a2.length := by omega
  have q2 : i < b2.length := by omega
  rw [PM.longcaseref06_Same.l2, if_pos (by omega), if_pos (by omega), if_pos (by omega), rd67 a2 i q1, rd67 b2 i q2, List.drop_eq_getElem_cons q1, List.drop_eq_getElem_cons q2, cons_dec, show wrap64 ((i : Int) + 1) = ((i + 1 : Nat) : Int) by rw [w64 (by omega) (by omega)]; omega, ih k (i + 1) (by omega) (by omega)]
  rw [ne67]
  by_cases e : a2[i] = b2[i]
  ·
   rw [decide_eq_true e, if_neg (by decide), Bool.true_and]
  ·
   rw [decide_eq_false e, if_pos (by decide), Bool.false_and]
theorem same_l1 (h1 : a1.length = b1.length) (h2 : a2.length = b2.length) (ha1 : a1.length ≤ 1000000) (ha : a2.length ≤ 1000000) (d : Nat) : ∀ (k i : Nat), i + d = a1.length → d + a2.length + 1 < k → PM.longcaseref06_Same.l1 k i a0 a1 a2 a3 a4 b0 b1 b2 b3 b4 = some (decide (a1.drop i = b1.drop i) && decide (a2 = b2)) := by
 induction d with
 | zero =>
  intro k i hi hk
  obtain ⟨k, rfl⟩ : ∃ q, k = q + 1 := ⟨k - 1, by omega⟩
  have h := same_l2 a0 a1 a2 a3 a4 b0 b1 b2 b3 b4 h2 ha a2.length k 0 (by omega) (by omega)
  rw [PM.longcaseref06_Same.l1, if_neg (by omega), List.drop_of_length_le (by omega), List.drop_of_length_le (by omega)]
  simpa using h
 | succ d ih =>
  intro k i hi hk
  obtain ⟨k, rfl⟩ : ∃ q, k = q + 1 := ⟨k - 1, by omega⟩
  have q1 : i < a1.length := by omega
  have q2 : i < b1.length := by omega
  rw [PM.longcaseref06_Same.l1, if_pos (by omega), if_pos (by omega), if_pos (by omega), rd54 a1 i q1, rd54 b1 i q2, List.drop_eq_getElem_cons q1, List.drop_eq_getElem_cons q2, cons_dec, show wrap64 ((i : Int) + 1) = ((i + 1 : Nat) : Int) by rw [w64 (by omega) (by omega)]; omega, ih k (i + 1) (by omega) (by omega)]
  rw [ne54]
  by_cases e : a1[i] = b1[i]
  ·
   rw [decide_eq_true e, if_neg (by decide), Bool.true_and]
  ·
   rw [decide_eq_false e, if_pos (by decide), Bool.false_and, Bool.false_and]
theorem same_l0 (h0 : a0.length = b0.length) (h1 : a1.length = b1.length) (h2 : a2.length = b2.length) (ha0 : a0.length ≤ 1000000) (ha1 : a1.length ≤ 1000000) (ha : a2.length ≤ 1000000) (d : Nat) : ∀ (k i : Nat), i + d = a0.length → d + a1.length + a2.length + 2 < k → PM.longcaseref06_Same.l0 k i a0 a1 a2 a3 a4 b0 b1 b2 b3 b4 = some (decide (a0.drop i = b0.drop i) && (decide (a1 = b1) && decide (a2 = b2))) := by
 induction d with
 | zero =>
  intro k i hi hk
  obtain ⟨k, rfl⟩ : ∃ q, k = q + 1 := ⟨k - 1, by omega⟩
  have h := same_l1 a0 a1 a2 a3 a4 b0 b1 b2 b3 b4 h1 h2 ha1 ha a1.length k 0 (by omega) (by omega)
  rw [PM.longcaseref06_Same.l0, if_neg (by omega), List.drop_of_length_le (by omega), List.drop_of_length_le (by omega)]
  simpa using h
 | succ d ih =>
  intro k i hi hk
  obtain ⟨k, rfl⟩ : ∃ q, k = q + 1 := ⟨k - 1, by omega⟩
  have q1 : i < a0.length := by omega
  have q2 : i < b0.length := by omega
  rw [PM.longcaseref06_Same.l0, if_pos (by omega), if_pos (by omega), if_pos (by omega), rd56 a0 i q1, rd56 b0 i q2, List.drop_eq_getElem_cons q1, List.drop_eq_getElem_cons q2, cons_dec, show wrap64 ((i : Int) + 1) = ((i + 1 : Nat) : Int) by rw [w64 (by omega) (by omega)]; omega, ih k (i + 1) (by omega) (by omega)]
  rw [ne56]
  by_cases e : a0[i] = b0[i]
  ·
   rw [decide_eq_true e, if_neg (by decide), Bool.true_and]
  ·
   rw [decide_eq_false e, if_pos (by decide), Bool.false_and, Bool.false_and]
theorem same_f (k : Nat) (hk : a0.length + a1.length + a2.length + a3.length + a4.length + 5 < k) (ha : a0.length ≤ 1000000 ∧ a1.length ≤ 1000000 ∧ a2.length ≤ 1000000 ∧ a3.length ≤ 1000000 ∧ a4.length ≤ 1000000) :
  PM.longcaseref06_Same.f k a0 a1 a2 a3 a4 b0 b1 b2 b3 b4 = some (sameB a0 a1 a2 a3 a4 b0 b1 b2 b3 b4) := by
 obtain ⟨k, rfl⟩ : ∃ q, k = q + 1 := ⟨k - 1, by omega⟩
 unfold PM.longcaseref06_Same.f sameB
 have no : PM.longcaseref06_Same.j0 (k + 1) true a0 a1 a2 a3 a4 b0 b1 b2 b3 b4 = some false := by rw [PM.longcaseref06_Same.j0, if_pos rfl]
 by_cases h0 : a0.length = b0.length
 ·
  rw [if_pos (by omega)]
  by_cases h1 : a1.length = b1.length
  ·
   rw [if_pos (by omega)]
   by_cases h2 : a2.length = b2.length
   ·
    rw [if_pos (by omega), bools_f _ a3 b3 ha.2.2.2.1 (by omega), Option.bind_some]
    by_cases h3 : a3 = b3
    ·
     rw [decide_eq_true h3, if_pos rfl, bools_f _ a4 b4 ha.2.2.2.2 (by omega), Option.bind_some, PM.longcaseref06_Same.j0]
     by_cases h4 : a4 = b4
     ·
      rw [decide_eq_true h4, if_neg (by decide)]
      have h := same_l0 a0 a1 a2 a3 a4 b0 b1 b2 b3 b4 h0 h1 h2 ha.1 ha.2.1 ha.2.2.1 a0.length k 0 (by omega) (by omega)
      rw [show ((0 : Nat) : Int) = 0 from rfl] at h
      rw [h, List.drop_zero, List.drop_zero]
      simp [h3, h4]
     ·
      rw [decide_eq_false h4, if_pos (by rfl), decide_eq_false (fun h => h4 h.2.2.2.2)]
    ·
     rw [decide_eq_false h3, if_neg (by decide), no, decide_eq_false (fun h => h3 h.2.2.2.1)]
   ·
    rw [if_neg (by omega), no, decide_eq_false (fun h => h2 (by rw [h.2.2.1]))]
  ·
   rw [if_neg (by omega), no, decide_eq_false (fun h => h1 (by rw [h.2.1]))]
 ·
  rw [if_neg (by omega), no, decide_eq_false (fun h => h0 (by rw [h.1]))]
end
end Go.Proofs.Ythobnoknbdljgaa
end
section
namespace Go.Proofs.Ythobnoknbdljgaa.Hand
open Go.RowKit Go.Proofs.YthobnoknbdljgaaW.PrintWords Go.Proofs.YthobnoknbdljgaaW.PrintLast Go.Proofs.YthobnoknbdljgaaW.PrintMore PB0
set_option linter.unusedVariables false
set_option linter.unusedSimpArgs false
set_option maxHeartbeats 4000000 in
set_option maxRecDepth 100000 in
theorem ref_walk (A0 A1 A2 A3 A4 : Option Addr) (n0 n1 n2 n3 n4 c0 c1 c2 c3 c4 : Nat) (w : World) :
  Calls Try.prog 14 #[.agg #[.slice A0 n0 c0, .slice A1 n1 c1, .slice A2 n2 c2, .slice A3 n3 c3, .slice A4 n4 c4]] w fun e w' => e = .returned (.agg #[.slice A0 n0 c0, .slice A1 n1 c1, .slice A2 n2 c2, .slice A3 n3 c3, .slice A4 n4 c4]) ∧ Below w.heap.size w w' := by
 have hu27 := Try.underlying27
 have hu31 := Try.underlying31
 have HB := Aside0.mk (Below.refl w.heap.size w)
 go_enter Try.func14, Try.ntmps14
 go_upto_region 1 with (first
  | ((with_reducible refine gate_dst (N := 1) rfl ?_); refine box_event ?hg (N := 1) ?hd (cs := #[.slice A0 n0 c0, .slice A1 n1 c1, .slice A2 n2 c2, .slice A3 n3 c3, .slice A4 n4 c4]) (t := 27) ?hr ?_; (case hd => rfl); (case hg => rfl); (case hr => first | (go_simp; done) | (go_simp; rfl)); intro g1 hg w1 hbox hb; have Bg1 := Aside0.mk hbox; have GEg1 := Aside0.mk (show w.heap.size ≤ g1 by first | omega | (have h_ := below_size HB.out; omega)); clear hbox hg; have n0_ := Aside0.mk (below_step HB.out hb); clear HB; have HB := n0_; clear n0_ hb)
  | ((with_reducible refine gate_dst (N := 2) rfl ?_); refine box_event ?hg (N := 2) ?hd (cs := #[.slice none 0 0, .slice none 0 0, .slice none 0 0, .slice none 0 0, .slice none 0 0]) (t := 31) ?hr ?_; (case hd => rfl); (case hg => rfl); (case hr => first | (go_simp; done) | (go_simp; rfl)); intro g2 hg w2 hbox hb; have Bg2 := Aside0.mk hbox; have GEg2 := Aside0.mk (show w.heap.size ≤ g2 by first | omega | (have h_ := below_size HB.out; omega)); clear hbox hg; have n0_ := Aside0.mk (blk_below Bg1.out hb); have n1_ := Aside0.mk (below_step HB.out hb); clear Bg1 HB; have Bg1 := n0_; have HB := n1_; clear n0_ n1_ hb; obtain ⟨t0, t1, t2, t3, t4⟩ := Sq.c5 Bg1; obtain ⟨z0, z1, z2, z3, z4⟩ := Sq.c5 Bg2; have y0 := blk_frozen Bg2.out 0; have y1 := blk_frozen Bg2.out 1; have y2 := blk_frozen Bg2.out 2; have y3 := blk_frozen Bg2.out 3; have y4 := blk_frozen Bg2.out 4))
 go_wp2
 refine bodyPost_ret (results_cell_row rfl _ _ g2 31 _ (0, 0) _ rfl (put5_at Bg2.out) Try.underlying31 rfl (by kernel_rfl)) rfl ?_
 exact ⟨rfl, put5_below HB.out GEg2.out⟩
end Go.Proofs.Ythobnoknbdljgaa.Hand
namespace Go.Proofs.Ythobnoknbdljgaa.Stub2
open Go.RowKit Go.Proofs.YthobnoknbdljgaaW.PrintWords PB0 Hand
def longcaselaw06_ref.f (l0 : List S56) (l1 : List S54) (l2 : List S67) (l3 l4 : List Bool) : Option (List S56 × List S54 × List S67 × List Bool × List Bool) := some (l0, l1, l2, l3, l4)
theorem longcaselaw06_ref.calls (A0_0 : Option Addr) (c0_0 : Nat) (l0_0 : List S56) (A0_1 : Option Addr) (c0_1 : Nat) (l0_1 : List S54) (A0_2 : Option Addr) (c0_2 : Nat) (l0_2 : List S67) (A0_3 : Option Addr) (c0_3 : Nat) (l0_3 : List Bool) (A0_4 : Option Addr) (c0_4 : Nat) (l0_4 : List Bool) (t0 : List S56) (t1 : List S54) (t2 : List S67) (t3 t4 : List Bool) (w : World) (h : longcaselaw06_ref.f l0_0 l0_1 l0_2 l0_3 l0_4 = some (t0, t1, t2, t3, t4)) :
  Calls Try.prog 14 #[.agg #[.slice A0_0 l0_0.length c0_0, .slice A0_1 l0_1.length c0_1, .slice A0_2 l0_2.length c0_2, .slice A0_3 l0_3.length c0_3, .slice A0_4 l0_4.length c0_4]] w fun e w' => ∃ v0 v1 v2 v3 v4 : Value, e = .returned (.agg #[v0, v1, v2, v3, v4]) ∧
   (∀ b ok, Kd.R k56 56 w b ok (.slice A0_0 l0_0.length c0_0) l0_0 → Kd.R k56 56 w' b ok v0 t0) ∧ (∀ b ok, Kd.R k54 54 w b ok (.slice A0_1 l0_1.length c0_1) l0_1 → Kd.R k54 54 w' b ok v1 t1) ∧
   (∀ b ok, Kd.R k67 67 w b ok (.slice A0_2 l0_2.length c0_2) l0_2 → Kd.R k67 67 w' b ok v2 t2) ∧ (∀ b ok, Kd.R Kd.bool 4 w b ok (.slice A0_3 l0_3.length c0_3) l0_3 → Kd.R Kd.bool 4 w' b ok v3 t3) ∧
   (∀ b ok, Kd.R Kd.bool 4 w b ok (.slice A0_4 l0_4.length c0_4) l0_4 → Kd.R Kd.bool 4 w' b ok v4 t4) ∧ Below w.heap.size w w' := by
 unfold longcaselaw06_ref.f at h
 simp only [Option.some.injEq, Prod.mk.injEq] at h
 obtain ⟨rfl, rfl, rfl, rfl, rfl⟩ := h
 refine (ref_walk _ _ _ _ _ _ _ _ _ _ _ _ _ _ _ w).mono ?_
 rintro e w' ⟨rfl, hb⟩
 exact ⟨_, _, _, _, _, rfl, fun _ _ h => Kd.R_below h hb, fun _ _ h => Kd.R_below h hb, fun _ _ h => Kd.R_below h hb, fun _ _ h => Kd.R_below h hb, fun _ _ h => Kd.R_below h hb, hb⟩
def longcaseref06_Same.f (a0 : List S56) (a1 : List S54) (a2 : List S67) (a3 a4 : List Bool) (b0 : List S56) (b1 : List S54) (b2 : List S67) (b3 b4 : List Bool) : Option Bool :=
 if a0.length ≤ 1000000 ∧ a1.length ≤ 1000000 ∧ a2.length ≤ 1000000 ∧ a3.length ≤ 1000000 ∧ a4.length ≤ 1000000 then some (sameB a0 a1 a2 a3 a4 b0 b1 b2 b3 b4) else none
theorem longcaseref06_Same.calls (A0_0 : Option Addr) (c0_0 : Nat) (l0_0 : List S56) (A0_1 : Option Addr) (c0_1 : Nat) (l0_1 : List S54) (A0_2 : Option Addr) (c0_2 : Nat) (l0_2 : List S67) (A0_3 : Option Addr) (c0_3 : Nat) (l0_3 : List Bool) (A0_4 : Option Addr) (c0_4 : Nat) (l0_4 : List Bool) (A1_0 : Option Addr) (c1_0 : Nat) (l1_0 : List S56) (A1_1 : Option Addr) (c1_1 : Nat) (l1_1 : List S54) (A1_2 : Option Addr) (c1_2 : Nat) (l1_2 : List S67) (A1_3 : Option Addr) (c1_3 : Nat) (l1_3 : List Bool) (A1_4 : Option Addr) (c1_4 : Nat) (l1_4 : List Bool) (r : Bool) (w : World) (hr0_0 : Kd.C k56 w A0_0 l0_0.length l0_0) (hc0_0 : l0_0.length ≤ c0_0) (hr0_1 : Kd.C k54 w A0_1 l0_1.length l0_1) (hc0_1 : l0_1.length ≤ c0_1) (hr0_2 : Kd.C k67 w A0_2 l0_2.length l0_2) (hc0_2 : l0_2.length ≤ c0_2) (hr0_3 : Kd.C Kd.bool w A0_3 l0_3.length l0_3) (hc0_3 : l0_3.length ≤ c0_3) (hr0_4 : Kd.C Kd.bool w A0_4 l0_4.length l0_4) (hc0_4 : l0_4.length ≤ c0_4) (hr1_0 : Kd.C k56 w A1_0 l1_0.length l1_0) (hc1_0 : l1_0.length ≤ c1_0) (hr1_1 : Kd.C k54 w A1_1 l1_1.length l1_1) (hc1_1 : l1_1.length ≤ c1_1) (hr1_2 : Kd.C k67 w A1_2 l1_2.length l1_2) (hc1_2 : l1_2.length ≤ c1_2) (hr1_3 : Kd.C Kd.bool w A1_3 l1_3.length l1_3) (hc1_3 : l1_3.length ≤ c1_3) (hr1_4 : Kd.C Kd.bool w A1_4 l1_4.length l1_4) (hc1_4 : l1_4.length ≤ c1_4) (h : longcaseref06_Same.f l0_0 l0_1 l0_2 l0_3 l0_4 l1_0 l1_1 l1_2 l1_3 l1_4 = some r) :
  Calls Try.prog 17 #[.agg #[.slice A0_0 l0_0.length c0_0, .slice A0_1 l0_1.length c0_1, .slice A0_2 l0_2.length c0_2, .slice A0_3 l0_3.length c0_3, .slice A0_4 l0_4.length c0_4], .agg #[.slice A1_0 l1_0.length c1_0, .slice A1_1 l1_1.length c1_1, .slice A1_2 l1_2.length c1_2, .slice A1_3 l1_3.length c1_3, .slice A1_4 l1_4.length c1_4]] w fun e w' => e = .returned (.bool r) ∧ Below w.heap.size w w' := by
 unfold longcaseref06_Same.f at h
 split at h
 ·
  rename_i hh
  exact PM.longcaseref06_Same.calls _ A0_0 c0_0 l0_0 A0_1 c0_1 l0_1 A0_2 c0_2 l0_2 A0_3 c0_3 l0_3 A0_4 c0_4 l0_4 A1_0 c1_0 l1_0 A1_1 c1_1 l1_1 A1_2 c1_2 l1_2 A1_3 c1_3 l1_3 A1_4 c1_4 l1_4 r w hr0_0 hc0_0 hr0_1 hc0_1 hr0_2 hc0_2 hr0_3 hc0_3 hr0_4 hc0_4 hr1_0 hc1_0 hr1_1 hc1_1 hr1_2 hc1_2 hr1_3 hc1_3 hr1_4 hc1_4 ((same_f _ _ _ _ _ _ _ _ _ _ _ (Nat.lt_succ_self _) hh).trans h)
 ·
  cases h
end Go.Proofs.Ythobnoknbdljgaa.Stub2
end
section
namespace Go.Proofs.Ythobnoknbdljgaa.Hand
open Go
section
variable {P : Program} {ops : Array Oper} {Q : Exit → Act → World → Prop} {md : Region.Mode} {S : World → Prop} {z : Nat}
def elder (ops : Array Oper) : Bool := (List.range ops.size).all fun i => match ops[i]? with
 | some o => o.after.all fun e => decide (e.on < i)
 | none => true
theorem elder_at (h : elder ops = true) {i : Nat} {o : Oper} (ho : ops[i]? = some o) : ∀ e ∈ o.after, e.on < i := by
 have hi : i < ops.size := (Array.getElem?_eq_some_iff.1 ho).1
 have h1 := List.all_eq_true.1 h i (List.mem_range.2 hi)
 rw [ho] at h1
 intro e he
 obtain ⟨j, hj, rfl⟩ := Array.getElem_of_mem he
 exact of_decide_eq_true (Array.all_eq_true.1 h1 j hj)
theorem all_done (hl : elder ops = true) {ls : Array Bool} (hs : ls.size = ops.size) (h : Region.ready md ops ls = []) : ∀ i, ls.getD i true = true := by
 intro i
 induction i using Nat.strongRecOn with
 | _ i ih =>
  rcases Nat.lt_or_ge i ops.size with hi | hi
  ·
   cases hb : ls.getD i true with
   | true => rfl
   | false =>
    exfalso
    have : i ∈ Region.ready md ops ls := by
     refine mem_ready.2 ⟨hb, ops[i], Array.getElem?_eq_getElem hi, fun e he _ => ?_⟩
     have h1 := elder_at hl (Array.getElem?_eq_getElem hi) e he
     have h2 := ih e.on h1
     rw [Array.getD_eq_getD_getElem?, Array.getElem?_eq_getElem (by omega), Option.getD_some] at h2 ⊢
     exact h2
    rw [h] at this
    cases this
  ·
   rw [Array.getD_eq_getD_getElem?, Array.getElem?_eq_none (by omega)]
   rfl
theorem ready_dep {i k : Nat} {ls : Array Bool} (h : i ∈ Region.ready md ops ls) (hw : zwaits md ops i k = true) : ls.getD k true = true := by
 cases hb : ls.getD k true with
 | true => rfl
 | false => exact absurd h (not_ready hw hb)
theorem ready_false {i : Nat} {ls : Array Bool} (h : i ∈ Region.ready md ops ls) : ls.getD i true = false := (mem_ready.1 h).1
theorem ready_lt {i : Nat} {ls : Array Bool} (h : i ∈ Region.ready md ops ls) : i < ls.size := by
 rcases Nat.lt_or_ge i ls.size with h1 | h1
 ·
  exact h1
 ·
  have := ready_false h
  rw [Array.getD_eq_getD_getElem?, Array.getElem?_eq_none h1] at this
  cases this
def undone (ls : Array Bool) : Nat := (ls.toList.filter (!·)).length
theorem undone_set {i : Nat} {ls : Array Bool} (h : ls.getD i true = false) : undone (ls.setIfInBounds i true) + 1 = undone ls := by
 have hi : i < ls.size := by
  rcases Nat.lt_or_ge i ls.size with h1 | h1
  ·
   exact h1
  ·
   rw [Array.getD_eq_getD_getElem?, Array.getElem?_eq_none h1] at h
   cases h
 rw [Array.getD_eq_getD_getElem?, Array.getElem?_eq_getElem hi, Option.getD_some] at h
 unfold undone
 obtain ⟨l⟩ := ls
 simp only [List.setIfInBounds_toArray] at *
 simp only [List.getElem_toArray] at h
 simp only [List.size_toArray] at hi
 induction l generalizing i with
 | nil => simp at hi
 | cons b l ih =>
  cases i with
  | zero =>
   have hb0 : b = false := h
   subst hb0
   simp
  | succ i =>
   have hi2 : i < l.length := by simp at hi; omega
   have := ih (i := i) hi2 (show l[i] = false from h)
   simp only [List.set_cons_succ, List.filter_cons]
   split
   ·
    rw [List.length_cons, List.length_cons]; omega
   ·
    omega
theorem Z_inv (I : Array Bool → Act → World → Prop) (he : ∀ ls a w, I ls a w → Region.ready md ops ls = [] → Q .normal a w)
  (hs : ∀ ls a w, I ls a w → ∀ i ∈ Region.ready md ops ls, wpOp P ops Q i (fun a' w' => (i ≠ z → S w') ∧ I (ls.setIfInBounds i true) a' w') a w) (n : Nat) :
  ∀ ls a w, undone ls ≤ n → I ls a w → wpZ P md ops Q S z n ls a w := by
 induction n with
 | zero =>
  intro ls a w hn hi
  have hr : Region.ready md ops ls = [] := by
   cases hc : Region.ready md ops ls with
   | nil => rfl
   | cons i l =>
    have hm : i ∈ Region.ready md ops ls := by rw [hc]; exact List.mem_cons_self ..
    have := undone_set (ready_false hm)
    omega
  exact ⟨hr, he ls a w hi hr⟩
 | succ n ih =>
  intro ls a w hn hi
  refine ⟨he ls a w hi, fun i hm => wpOp_mono (fun a' w' h => ⟨h.1, ih _ a' w' ?_ h.2⟩) (hs ls a w hi i hm)⟩
  have := undone_set (ready_false hm)
  omega
end
def upd {β : Type} (s : Nat → β) (i : Nat) (b : β) : Nat → β := fun k => if k = i then b else s k
def putL (a : Act) (l : List (Nat × Nat)) (f : Nat → Value) : Act := l.foldl (fun a p => a.put (some p.1) (f p.2)) a
theorem put_comm (a : Act) {i j : Nat} (h : i ≠ j) (u v : Value) : (a.put (some i) u).put (some j) v = (a.put (some j) v).put (some i) u := by
 simp only [Act.put]
 rw [Array.setIfInBounds_comm _ _ h]
theorem put_same (a : Act) (i : Nat) (u v : Value) : (a.put (some i) u).put (some i) v = a.put (some i) v := by
 simp only [Act.put, Array.setIfInBounds_setIfInBounds]
theorem putL_put (l : List (Nat × Nat)) (f : Nat → Value) {t : Nat} (ht : t ∉ l.map Prod.fst) (v : Value) : ∀ a : Act, (putL a l f).put (some t) v = putL (a.put (some t) v) l f := by
 induction l with
 | nil => exact fun _ => rfl
 | cons p l ih =>
  intro a
  simp only [List.map_cons, List.mem_cons, not_or] at ht
  show (putL (a.put (some p.1) (f p.2)) l f).put (some t) v = putL ((a.put (some t) v).put (some p.1) (f p.2)) l f
  rw [ih ht.2, put_comm _ (Ne.symm ht.1)]
theorem putL_congr (l : List (Nat × Nat)) {f g : Nat → Value} (h : ∀ p ∈ l, f p.2 = g p.2) : ∀ a : Act, putL a l f = putL a l g := by
 induction l with
 | nil => exact fun _ => rfl
 | cons p l ih =>
  intro a
  show putL (a.put (some p.1) (f p.2)) l f = putL (a.put (some p.1) (g p.2)) l g
  rw [h p (List.mem_cons_self ..), ih (fun q hq => h q (List.mem_cons_of_mem _ hq))]
theorem putL_upd (l : List (Nat × Nat)) (h1 : (l.map Prod.fst).Nodup) (h2 : (l.map Prod.snd).Nodup) {t i : Nat} (hm : (t, i) ∈ l) (f : Nat → Value) (v : Value) : ∀ a : Act, (putL a l f).put (some t) v = putL a l (upd f i v) := by
 induction l with
 | nil => cases hm
 | cons p l ih =>
  intro a
  rw [List.map_cons, List.nodup_cons] at h1 h2
  rcases List.mem_cons.1 hm with rfl | hm
  ·
   show (putL (a.put (some t) (f i)) l f).put (some t) v = putL (a.put (some t) (upd f i v i)) l (upd f i v)
   rw [putL_put l f h1.1, put_same]
   have e : upd f i v i = v := if_pos rfl
   rw [e]
   exact putL_congr l (fun q hq => (if_neg (fun (e : q.2 = i) => h2.1 (List.mem_map.2 ⟨q, hq, e⟩))).symm) _
  ·
   show (putL (a.put (some p.1) (f p.2)) l f).put (some t) v = putL (a.put (some p.1) (upd f i v p.2)) l (upd f i v)
   have e : upd f i v p.2 = f p.2 := if_neg (fun e => h2.1 (by rw [e]; exact List.mem_map_of_mem (f := Prod.snd) hm))
   rw [e]
   exact ih h1.2 h2.2 hm _
theorem putL_out (l : List (Nat × Nat)) (f : Nat → Value) {t : Nat} (ht : t ∉ l.map Prod.fst) : ∀ a : Act, (putL a l f).tmps[t]? = a.tmps[t]? := by
 induction l with
 | nil => exact fun _ => rfl
 | cons p l ih =>
  intro a
  simp only [List.map_cons, List.mem_cons, not_or] at ht
  show (putL (a.put (some p.1) (f p.2)) l f).tmps[t]? = _
  rw [ih ht.2]
  simp only [Act.put]
  rw [Array.getElem?_setIfInBounds_ne (Ne.symm ht.1)]
theorem putL_in (l : List (Nat × Nat)) (h1 : (l.map Prod.fst).Nodup) {t i : Nat} (hm : (t, i) ∈ l) (f : Nat → Value) : ∀ a : Act, t < a.tmps.size → (putL a l f).tmps[t]? = some (f i) := by
 induction l with
 | nil => cases hm
 | cons p l ih =>
  intro a ht
  rw [List.map_cons, List.nodup_cons] at h1
  rcases List.mem_cons.1 hm with rfl | hm
  ·
   show (putL (a.put (some t) (f i)) l f).tmps[t]? = _
   rw [putL_out l f h1.1]
   simp [Act.put, ht]
  ·
   exact ih h1.2 hm _ (by simpa [Act.put] using ht)
def setL (ls : Array Bool) (l : List Nat) (s : Nat → Bool) : Array Bool := l.foldl (fun a i => a.setIfInBounds i (s i)) ls
theorem setL_put (l : List Nat) (s : Nat → Bool) {i : Nat} (hi : i ∉ l) (b : Bool) : ∀ a, (setL a l s).setIfInBounds i b = setL (a.setIfInBounds i b) l s := by
 induction l with
 | nil => exact fun _ => rfl
 | cons p l ih =>
  intro a
  simp only [List.mem_cons, not_or] at hi
  show (setL (a.setIfInBounds p (s p)) l s).setIfInBounds i b = setL ((a.setIfInBounds i b).setIfInBounds p (s p)) l s
  rw [ih hi.2, Array.setIfInBounds_comm _ _ (Ne.symm hi.1)]
theorem setL_congr (l : List Nat) {s r : Nat → Bool} (h : ∀ p ∈ l, s p = r p) : ∀ a, setL a l s = setL a l r := by
 induction l with
 | nil => exact fun _ => rfl
 | cons p l ih =>
  intro a
  show setL (a.setIfInBounds p (s p)) l s = setL (a.setIfInBounds p (r p)) l r
  rw [h p (List.mem_cons_self ..), ih (fun q hq => h q (List.mem_cons_of_mem _ hq))]
theorem setL_upd (l : List Nat) (h1 : l.Nodup) {i : Nat} (hm : i ∈ l) (s : Nat → Bool) (b : Bool) : ∀ a, (setL a l s).setIfInBounds i b = setL a l (upd s i b) := by
 induction l with
 | nil => cases hm
 | cons p l ih =>
  intro a
  rw [List.nodup_cons] at h1
  rcases List.mem_cons.1 hm with rfl | hm
  ·
   show (setL (a.setIfInBounds i (s i)) l s).setIfInBounds i b = setL (a.setIfInBounds i (upd s i b i)) l (upd s i b)
   rw [setL_put l s h1.1, Array.setIfInBounds_setIfInBounds, show upd s i b i = b from if_pos rfl]
   exact setL_congr l (fun q hq => (if_neg (fun (e : q = i) => h1.1 (by rw [← e]; exact hq))).symm) _
  ·
   show (setL (a.setIfInBounds p (s p)) l s).setIfInBounds i b = setL (a.setIfInBounds p (upd s i b p)) l (upd s i b)
   rw [show upd s i b p = s p from if_neg (fun (e : p = i) => h1.1 (by rw [e]; exact hm))]
   exact ih h1.2 hm _
theorem setL_size (l : List Nat) (s : Nat → Bool) : ∀ a, (setL a l s).size = a.size := by
 induction l with
 | nil => exact fun _ => rfl
 | cons p l ih =>
  intro a
  show (setL (a.setIfInBounds p (s p)) l s).size = _
  rw [ih, Array.size_setIfInBounds]
theorem setL_out (l : List Nat) (s : Nat → Bool) {i : Nat} (hi : i ∉ l) : ∀ a : Array Bool, (setL a l s).getD i true = a.getD i true := by
 induction l with
 | nil => exact fun _ => rfl
 | cons p l ih =>
  intro a
  simp only [List.mem_cons, not_or] at hi
  show (setL (a.setIfInBounds p (s p)) l s).getD i true = _
  rw [ih hi.2, Array.getD_eq_getD_getElem?, Array.getD_eq_getD_getElem?, Array.getElem?_setIfInBounds_ne (Ne.symm hi.1)]
theorem setL_in (l : List Nat) (h1 : l.Nodup) {i : Nat} (hm : i ∈ l) (s : Nat → Bool) : ∀ a : Array Bool, i < a.size → (setL a l s).getD i true = s i := by
 induction l with
 | nil => cases hm
 | cons p l ih =>
  intro a ha
  rw [List.nodup_cons] at h1
  rcases List.mem_cons.1 hm with rfl | hm
  ·
   show (setL (a.setIfInBounds i (s i)) l s).getD i true = _
   rw [setL_out l s h1.1, Array.getD_eq_getD_getElem?]
   simp [ha]
  ·
   exact ih h1.2 hm _ (by simpa using ha)
theorem ev_in {l : List (Nat × Nat)} (h1 : (l.map Prod.fst).Nodup) {t i : Nat} (hm : (t, i) ∈ l) (f : Nat → Value) {a : Act} (ht : t < a.tmps.size) : (putL a l f).eval (.tmp t) = f i := by
 show (putL a l f).tmps.getD t undef = f i
 rw [Array.getD_eq_getD_getElem?, putL_in l h1 hm f a ht, Option.getD_some]
theorem ev_out {l : List (Nat × Nat)} {t : Nat} (hm : t ∉ l.map Prod.fst) (f : Nat → Value) {a : Act} : (putL a l f).eval (.tmp t) = a.eval (.tmp t) := by
 show (putL a l f).tmps.getD t undef = a.tmps.getD t undef
 rw [Array.getD_eq_getD_getElem?, putL_out l f hm a, Array.getD_eq_getD_getElem?]
theorem put_self {a : Act} {t : Nat} {v : Value} (h : a.tmps[t]? = some v) : a.put (some t) v = a := by
 obtain ⟨ts, ds⟩ := a
 show (⟨ts.setIfInBounds t v, ds⟩ : Act) = ⟨ts, ds⟩
 have h2 : ts[t]? = some v := h
 have : ts.setIfInBounds t v = ts := by
  apply Array.ext_getElem?
  intro i
  rw [Array.getElem?_setIfInBounds]
  split
  ·
   rename_i e
   subst e
   split
   ·
    exact h2.symm
   ·
    rename_i hn
    rw [Array.getElem?_eq_none (by omega)]
  ·
   rfl
 rw [this]
theorem putL_self {f : Nat → Value} {a : Act} : ∀ {l : List (Nat × Nat)}, (∀ p ∈ l, a.tmps[p.1]? = some (f p.2)) → putL a l f = a
 | [], _ => rfl
 | p :: l, h => by
  show putL (a.put (some p.1) (f p.2)) l f = a
  rw [put_self (h p (List.mem_cons_self ..))]
  exact putL_self (fun q hq => h q (List.mem_cons_of_mem _ hq))
end Go.Proofs.Ythobnoknbdljgaa.Hand
end
section
namespace Go.Proofs.Ythobnoknbdljgaa.Hand
open Go.RowKit Go.Proofs.YthobnoknbdljgaaW.PrintWords PB0
set_option linter.unusedVariables false
def cur (s : Nat → Bool) (f : Nat → Value) (i : Nat) : Value := if s (i + 8) = true then f (i + 8) else f i
def RowI {α : Type} (d : Kd α) (e B : Nat) (xs : List α) (s : Nat → Bool) (f : Nat → Value) (w : World) (i : Nat) : Prop :=
 s i = true → d.R e w B (fun _ => True) (cur s f i) (if s (i + 8) = true then xs else [])
theorem row_move {α : Type} {d : Kd α} {e B : Nat} {xs : List α} {s : Nat → Bool} {f : Nat → Value} {w w1 : World} {i : Nat} (hd : ∀ {w : World} {ok1 ok2 : Nat → Prop} {x : α} {cs : List Value}, d.M w B ok1 x cs → d.M w B ok2 x cs)
  (h : RowI d e B xs s f w i) (hm : ∀ k, s i = true → (cur s f i).ownBlock = some k → w1.heap[k]? = w.heap[k]?) : RowI d e B xs s f w1 i := by
 intro hs
 exact Kd.R_flat hd (Kd.R_move (Kd.R_flat (ok' := fun k => (cur s f i).ownBlock = some k) hd (h hs) (fun k hk _ => hk)) (fun k hk => hm k hs hk)) (fun _ _ _ => trivial)
structure FI (w0 : World) (g1 g2 : Nat) (c1 c2 : Array Value) (x0 : List S56) (x1 : List S54) (x2 : List S67) (x3 : List Bool) (x4 : List Bool) (s : Nat → Bool) (f : Nat → Value) (w : World) : Prop where
 below : Below w0.heap.size w0 w
 b1 : w.heap[g1]? = some (.cells c1 27 (0, 0))
 b2 : w.heap[g2]? = some (.cells c2 27 (0, 0))
 r0 : RowI k56 56 w0.heap.size x0 s f w 0
 r1 : RowI k54 54 w0.heap.size x1 s f w 9
 r2 : RowI k67 67 w0.heap.size x2 s f w 18
 r3 : RowI Kd.bool 4 w0.heap.size x3 s f w 27
 r4 : RowI Kd.bool 4 w0.heap.size x4 s f w 36
 o0 : s 8 = true → s 0 = true
 o1 : s 17 = true → s 9 = true
 o2 : s 26 = true → s 18 = true
 o3 : s 35 = true → s 27 = true
 o4 : s 44 = true → s 36 = true
 d : s 27 = true → s 36 = true → NeRow (cur s f 27) (cur s f 36)
 al : s 46 = true → ∃ g3, f 46 = .pointer (some ⟨g3, 0, none⟩) ∧ w.heap[g3]? = some (.cells #[.slice none 0 0, .slice none 0 0, .slice none 0 0, .slice none 0 0, .slice none 0 0] 27 (0, 0)) ∧ w0.heap.size ≤ g3 ∧ g2 < g3
 bd : s 45 = true → f 45 = .agg #[f 8, f 17, f 26, f 35, f 44] ∧ s 8 = true ∧ s 17 = true ∧ s 26 = true ∧ s 35 = true ∧ s 44 = true
section
variable {w0 : World} {g1 g2 : Nat} {c1 c2 : Array Value} {x0 : List S56} {x1 : List S54} {x2 : List S67} {x3 x4 : List Bool} {s : Nat → Bool} {f : Nat → Value} {w w1 : World}
theorem R_hlt {α : Type} {d : Kd α} {e b : Nat} {ok : Nat → Prop} {v : Value} {xs : List α} (h : d.R e w b ok v xs) : ∀ k, v.ownBlock = some k → k < w.heap.size := by
 obtain ⟨_, inner, ho, _⟩ := h
 exact own_lt ho
theorem FI.step (h : FI w0 g1 g2 c1 c2 x0 x1 x2 x3 x4 s f w) (hb : Below w.heap.size w w1) : FI w0 g1 g2 c1 c2 x0 x1 x2 x3 x4 s f w1 where
 below := below_step h.below hb
 b1 := blk_below h.b1 hb
 b2 := blk_below h.b2 hb
 r0 := fun hs => Kd.R_below (h.r0 hs) hb
 r1 := fun hs => Kd.R_below (h.r1 hs) hb
 r2 := fun hs => Kd.R_below (h.r2 hs) hb
 r3 := fun hs => Kd.R_below (h.r3 hs) hb
 r4 := fun hs => Kd.R_below (h.r4 hs) hb
 o0 := h.o0
 o1 := h.o1
 o2 := h.o2
 o3 := h.o3
 o4 := h.o4
 d := h.d
 al := fun hs => by
  obtain ⟨g3, e1, e2, e3⟩ := h.al hs
  exact ⟨g3, e1, blk_below e2 hb, e3⟩
 bd := h.bd
theorem FI.empty0 {v : Value} (h : FI w0 g1 g2 c1 c2 x0 x1 x2 x3 x4 s f w) (hs : s 0 = false) (hb : Below w.heap.size w w1) (hr : Kd.R k56 56 w1 w0.heap.size (fun _ => True) v []) (hf : ∃ b, v.ownBlock = some b ∧ w.heap.size ≤ b) :
  FI w0 g1 g2 c1 c2 x0 x1 x2 x3 x4 (upd s 0 true) (upd f 0 v) w1 := by
 have q := h.step hb
 have h8 : s 8 = false := by cases e : s 8 with | false => rfl | true => exact absurd (h.o0 e) (by rw [hs]; decide)
 have hc : cur (upd s 0 true) (upd f 0 v) 0 = v := by unfold cur; rw [if_neg (show ¬ (upd s 0 true) (0 + 8) = true from by show ¬ s 8 = true; rw [h8]; decide)]; rfl
 exact {
  below := q.below, b1 := q.b1, b2 := q.b2
  r0 := fun _ => by rw [hc, if_neg (show ¬ (upd s 0 true) (0 + 8) = true from by show ¬ s 8 = true; rw [h8]; decide)]; exact hr
  r1 := q.r1
  r2 := q.r2
  r3 := q.r3
  r4 := q.r4
  o0 := fun _ => rfl
  o1 := q.o1
  o2 := q.o2
  o3 := q.o3
  o4 := q.o4
  d := q.d
  al := q.al, bd := fun hh => by have := q.bd hh; exact this }
theorem FI.empty1 {v : Value} (h : FI w0 g1 g2 c1 c2 x0 x1 x2 x3 x4 s f w) (hs : s 9 = false) (hb : Below w.heap.size w w1) (hr : Kd.R k54 54 w1 w0.heap.size (fun _ => True) v []) (hf : ∃ b, v.ownBlock = some b ∧ w.heap.size ≤ b) :
  FI w0 g1 g2 c1 c2 x0 x1 x2 x3 x4 (upd s 9 true) (upd f 9 v) w1 := by
 have q := h.step hb
 have h8 : s 17 = false := by cases e : s 17 with | false => rfl | true => exact absurd (h.o1 e) (by rw [hs]; decide)
 have hc : cur (upd s 9 true) (upd f 9 v) 9 = v := by unfold cur; rw [if_neg (show ¬ (upd s 9 true) (9 + 8) = true from by show ¬ s 17 = true; rw [h8]; decide)]; rfl
 exact {
  below := q.below, b1 := q.b1, b2 := q.b2
  r0 := q.r0
  r1 := fun _ => by rw [hc, if_neg (show ¬ (upd s 9 true) (9 + 8) = true from by show ¬ s 17 = true; rw [h8]; decide)]; exact hr
  r2 := q.r2
  r3 := q.r3
  r4 := q.r4
  o0 := q.o0
  o1 := fun _ => rfl
  o2 := q.o2
  o3 := q.o3
  o4 := q.o4
  d := q.d
  al := q.al, bd := fun hh => by have := q.bd hh; exact this }
theorem FI.empty2 {v : Value} (h : FI w0 g1 g2 c1 c2 x0 x1 x2 x3 x4 s f w) (hs : s 18 = false) (hb : Below w.heap.size w w1) (hr : Kd.R k67 67 w1 w0.heap.size (fun _ => True) v []) (hf : ∃ b, v.ownBlock = some b ∧ w.heap.size ≤ b) :
  FI w0 g1 g2 c1 c2 x0 x1 x2 x3 x4 (upd s 18 true) (upd f 18 v) w1 := by
 have q := h.step hb
 have h8 : s 26 = false := by cases e : s 26 with | false => rfl | true => exact absurd (h.o2 e) (by rw [hs]; decide)
 have hc : cur (upd s 18 true) (upd f 18 v) 18 = v := by unfold cur; rw [if_neg (show ¬ (upd s 18 true) (18 + 8) = true from by show ¬ s 26 = true; rw [h8]; decide)]; rfl
 exact {
  below := q.below, b1 := q.b1, b2 := q.b2
  r0 := q.r0
  r1 := q.r1
  r2 := fun _ => by rw [hc, if_neg (show ¬ (upd s 18 true) (18 + 8) = true from by show ¬ s 26 = true; rw [h8]; decide)]; exact hr
  r3 := q.r3
  r4 := q.r4
  o0 := q.o0
  o1 := q.o1
  o2 := fun _ => rfl
  o3 := q.o3
  o4 := q.o4
  d := q.d
  al := q.al, bd := fun hh => by have := q.bd hh; exact this }
theorem FI.empty3 {v : Value} (h : FI w0 g1 g2 c1 c2 x0 x1 x2 x3 x4 s f w) (hs : s 27 = false) (hb : Below w.heap.size w w1) (hr : Kd.R Kd.bool 4 w1 w0.heap.size (fun _ => True) v []) (hf : ∃ b, v.ownBlock = some b ∧ w.heap.size ≤ b) :
  FI w0 g1 g2 c1 c2 x0 x1 x2 x3 x4 (upd s 27 true) (upd f 27 v) w1 := by
 have q := h.step hb
 have h8 : s 35 = false := by cases e : s 35 with | false => rfl | true => exact absurd (h.o3 e) (by rw [hs]; decide)
 have hc : cur (upd s 27 true) (upd f 27 v) 27 = v := by unfold cur; rw [if_neg (show ¬ (upd s 27 true) (27 + 8) = true from by show ¬ s 35 = true; rw [h8]; decide)]; rfl
 exact {
  below := q.below, b1 := q.b1, b2 := q.b2
  r0 := q.r0
  r1 := q.r1
  r2 := q.r2
  r3 := fun _ => by rw [hc, if_neg (show ¬ (upd s 27 true) (27 + 8) = true from by show ¬ s 35 = true; rw [h8]; decide)]; exact hr
  r4 := q.r4
  o0 := q.o0
  o1 := q.o1
  o2 := q.o2
  o3 := fun _ => rfl
  o4 := q.o4
  d := fun _ h2 => by rw [hc]; obtain ⟨b, hb1, hb2⟩ := hf; intro k hk hk2; have h3 := R_hlt (h.r4 h2) k hk2; rw [hb1] at hk; injection hk with hk; omega
  al := q.al, bd := fun hh => by have := q.bd hh; exact this }
theorem FI.empty4 {v : Value} (h : FI w0 g1 g2 c1 c2 x0 x1 x2 x3 x4 s f w) (hs : s 36 = false) (hb : Below w.heap.size w w1) (hr : Kd.R Kd.bool 4 w1 w0.heap.size (fun _ => True) v []) (hf : ∃ b, v.ownBlock = some b ∧ w.heap.size ≤ b) :
  FI w0 g1 g2 c1 c2 x0 x1 x2 x3 x4 (upd s 36 true) (upd f 36 v) w1 := by
 have q := h.step hb
 have h8 : s 44 = false := by cases e : s 44 with | false => rfl | true => exact absurd (h.o4 e) (by rw [hs]; decide)
 have hc : cur (upd s 36 true) (upd f 36 v) 36 = v := by unfold cur; rw [if_neg (show ¬ (upd s 36 true) (36 + 8) = true from by show ¬ s 44 = true; rw [h8]; decide)]; rfl
 exact {
  below := q.below, b1 := q.b1, b2 := q.b2
  r0 := q.r0
  r1 := q.r1
  r2 := q.r2
  r3 := q.r3
  r4 := fun _ => by rw [hc, if_neg (show ¬ (upd s 36 true) (36 + 8) = true from by show ¬ s 44 = true; rw [h8]; decide)]; exact hr
  o0 := q.o0
  o1 := q.o1
  o2 := q.o2
  o3 := q.o3
  o4 := fun _ => rfl
  d := fun h2 _ => by rw [hc]; obtain ⟨b, hb1, hb2⟩ := hf; intro k hk hk2; have h3 := R_hlt (h.r3 h2) k hk; rw [hb1] at hk2; injection hk2 with hk2; omega
  al := q.al, bd := fun hh => by have := q.bd hh; exact this }
theorem FI.append0 {v : Value} (h : FI w0 g1 g2 c1 c2 x0 x1 x2 x3 x4 s f w) (h0 : s 0 = true) (hs : s 8 = false) (hB : Below w0.heap.size w0 w1) (hr : Kd.R k56 56 w1 w0.heap.size (fun _ => True) v x0) (hg : w.grownBy w1 (f 0).ownBlock) (hat : v.ownBlock = (f 0).ownBlock ∨ ∃ b, v.ownBlock = some b ∧ w.heap.size ≤ b) :
  FI w0 g1 g2 c1 c2 x0 x1 x2 x3 x4 (upd s 8 true) (upd f 8 v) w1 := by
 have hc0 : cur s f 0 = f 0 := by unfold cur; rw [if_neg (by rw [hs]; decide)]
 have hR := h.r0 h0
 rw [hc0] at hR
 have hty := Kd.R_typed hR
 have hc : cur (upd s 8 true) (upd f 8 v) 0 = v := by unfold cur; rw [if_pos (show (upd s 8 true) (0 + 8) = true from rfl)]; rfl
 have far : ∀ k, k < w.heap.size → some k ≠ (f 0).ownBlock → w1.heap[k]? = w.heap[k]? := fun k hk hn => hg.block k hk hn
 exact {
  below := hB, b1 := blk_grown h.b1 hg (Kd.R_ne hR h.b1 (by decide)), b2 := blk_grown h.b2 hg (Kd.R_ne hR h.b2 (by decide))
  r0 := fun _ => by rw [hc, if_pos (show (upd s 8 true) (0 + 8) = true from rfl)]; exact hr
  r1 := row_move (fun h_ => h_) h.r1 (fun b hs2 hb2 => far b (R_hlt (h.r1 hs2) b hb2) (fun e => by obtain ⟨q1, q2⟩ := Kd.R_typed (h.r1 hs2) b hb2; obtain ⟨q3, q4⟩ := hty b e.symm; rw [q2] at q4; injection q4 with q4; injection q4 with _ q4; exact absurd q4 (by decide)))
  r2 := row_move (fun h_ => h_) h.r2 (fun b hs2 hb2 => far b (R_hlt (h.r2 hs2) b hb2) (fun e => by obtain ⟨q1, q2⟩ := Kd.R_typed (h.r2 hs2) b hb2; obtain ⟨q3, q4⟩ := hty b e.symm; rw [q2] at q4; injection q4 with q4; injection q4 with _ q4; exact absurd q4 (by decide)))
  r3 := row_move (fun h_ => h_) h.r3 (fun b hs2 hb2 => far b (R_hlt (h.r3 hs2) b hb2) (fun e => by obtain ⟨q1, q2⟩ := Kd.R_typed (h.r3 hs2) b hb2; obtain ⟨q3, q4⟩ := hty b e.symm; rw [q2] at q4; injection q4 with q4; injection q4 with _ q4; exact absurd q4 (by decide)))
  r4 := row_move (fun h_ => h_) h.r4 (fun b hs2 hb2 => far b (R_hlt (h.r4 hs2) b hb2) (fun e => by obtain ⟨q1, q2⟩ := Kd.R_typed (h.r4 hs2) b hb2; obtain ⟨q3, q4⟩ := hty b e.symm; rw [q2] at q4; injection q4 with q4; injection q4 with _ q4; exact absurd q4 (by decide)))
  o0 := fun _ => h0
  o1 := h.o1
  o2 := h.o2
  o3 := h.o3
  o4 := h.o4
  d := h.d
  al := fun hs => by
   obtain ⟨g3, e1, e2, e3⟩ := h.al hs
   exact ⟨g3, e1, blk_grown e2 hg (Kd.R_ne hR e2 (by decide)), e3⟩
  bd := fun hh => by have := (h.bd hh).2; simp [hs] at this }
theorem FI.append1 {v : Value} (h : FI w0 g1 g2 c1 c2 x0 x1 x2 x3 x4 s f w) (h0 : s 9 = true) (hs : s 17 = false) (hB : Below w0.heap.size w0 w1) (hr : Kd.R k54 54 w1 w0.heap.size (fun _ => True) v x1) (hg : w.grownBy w1 (f 9).ownBlock) (hat : v.ownBlock = (f 9).ownBlock ∨ ∃ b, v.ownBlock = some b ∧ w.heap.size ≤ b) :
  FI w0 g1 g2 c1 c2 x0 x1 x2 x3 x4 (upd s 17 true) (upd f 17 v) w1 := by
 have hc0 : cur s f 9 = f 9 := by unfold cur; rw [if_neg (by rw [hs]; decide)]
 have hR := h.r1 h0
 rw [hc0] at hR
 have hty := Kd.R_typed hR
 have hc : cur (upd s 17 true) (upd f 17 v) 9 = v := by unfold cur; rw [if_pos (show (upd s 17 true) (9 + 8) = true from rfl)]; rfl
 have far : ∀ k, k < w.heap.size → some k ≠ (f 9).ownBlock → w1.heap[k]? = w.heap[k]? := fun k hk hn => hg.block k hk hn
 exact {
  below := hB, b1 := blk_grown h.b1 hg (Kd.R_ne hR h.b1 (by decide)), b2 := blk_grown h.b2 hg (Kd.R_ne hR h.b2 (by decide))
  r0 := row_move (fun h_ => h_) h.r0 (fun b hs2 hb2 => far b (R_hlt (h.r0 hs2) b hb2) (fun e => by obtain ⟨q1, q2⟩ := Kd.R_typed (h.r0 hs2) b hb2; obtain ⟨q3, q4⟩ := hty b e.symm; rw [q2] at q4; injection q4 with q4; injection q4 with _ q4; exact absurd q4 (by decide)))
  r1 := fun _ => by rw [hc, if_pos (show (upd s 17 true) (9 + 8) = true from rfl)]; exact hr
  r2 := row_move (fun h_ => h_) h.r2 (fun b hs2 hb2 => far b (R_hlt (h.r2 hs2) b hb2) (fun e => by obtain ⟨q1, q2⟩ := Kd.R_typed (h.r2 hs2) b hb2; obtain ⟨q3, q4⟩ := hty b e.symm; rw [q2] at q4; injection q4 with q4; injection q4 with _ q4; exact absurd q4 (by decide)))
  r3 := row_move (fun h_ => h_) h.r3 (fun b hs2 hb2 => far b (R_hlt (h.r3 hs2) b hb2) (fun e => by obtain ⟨q1, q2⟩ := Kd.R_typed (h.r3 hs2) b hb2; obtain ⟨q3, q4⟩ := hty b e.symm; rw [q2] at q4; injection q4 with q4; injection q4 with _ q4; exact absurd q4 (by decide)))
  r4 := row_move (fun h_ => h_) h.r4 (fun b hs2 hb2 => far b (R_hlt (h.r4 hs2) b hb2) (fun e => by obtain ⟨q1, q2⟩ := Kd.R_typed (h.r4 hs2) b hb2; obtain ⟨q3, q4⟩ := hty b e.symm; rw [q2] at q4; injection q4 with q4; injection q4 with _ q4; exact absurd q4 (by decide)))
  o0 := h.o0
  o1 := fun _ => h0
  o2 := h.o2
  o3 := h.o3
  o4 := h.o4
  d := h.d
  al := fun hs => by
   obtain ⟨g3, e1, e2, e3⟩ := h.al hs
   exact ⟨g3, e1, blk_grown e2 hg (Kd.R_ne hR e2 (by decide)), e3⟩
  bd := fun hh => by have := (h.bd hh).2; simp [hs] at this }
theorem FI.append2 {v : Value} (h : FI w0 g1 g2 c1 c2 x0 x1 x2 x3 x4 s f w) (h0 : s 18 = true) (hs : s 26 = false) (hB : Below w0.heap.size w0 w1) (hr : Kd.R k67 67 w1 w0.heap.size (fun _ => True) v x2) (hg : w.grownBy w1 (f 18).ownBlock) (hat : v.ownBlock = (f 18).ownBlock ∨ ∃ b, v.ownBlock = some b ∧ w.heap.size ≤ b) :
  FI w0 g1 g2 c1 c2 x0 x1 x2 x3 x4 (upd s 26 true) (upd f 26 v) w1 := by
 have hc0 : cur s f 18 = f 18 := by unfold cur; rw [if_neg (by rw [hs]; decide)]
 have hR := h.r2 h0
 rw [hc0] at hR
 have hty := Kd.R_typed hR
 have hc : cur (upd s 26 true) (upd f 26 v) 18 = v := by unfold cur; rw [if_pos (show (upd s 26 true) (18 + 8) = true from rfl)]; rfl
 have far : ∀ k, k < w.heap.size → some k ≠ (f 18).ownBlock → w1.heap[k]? = w.heap[k]? := fun k hk hn => hg.block k hk hn
 exact {
  below := hB, b1 := blk_grown h.b1 hg (Kd.R_ne hR h.b1 (by decide)), b2 := blk_grown h.b2 hg (Kd.R_ne hR h.b2 (by decide))
  r0 := row_move (fun h_ => h_) h.r0 (fun b hs2 hb2 => far b (R_hlt (h.r0 hs2) b hb2) (fun e => by obtain ⟨q1, q2⟩ := Kd.R_typed (h.r0 hs2) b hb2; obtain ⟨q3, q4⟩ := hty b e.symm; rw [q2] at q4; injection q4 with q4; injection q4 with _ q4; exact absurd q4 (by decide)))
  r1 := row_move (fun h_ => h_) h.r1 (fun b hs2 hb2 => far b (R_hlt (h.r1 hs2) b hb2) (fun e => by obtain ⟨q1, q2⟩ := Kd.R_typed (h.r1 hs2) b hb2; obtain ⟨q3, q4⟩ := hty b e.symm; rw [q2] at q4; injection q4 with q4; injection q4 with _ q4; exact absurd q4 (by decide)))
  r2 := fun _ => by rw [hc, if_pos (show (upd s 26 true) (18 + 8) = true from rfl)]; exact hr
  r3 := row_move (fun h_ => h_) h.r3 (fun b hs2 hb2 => far b (R_hlt (h.r3 hs2) b hb2) (fun e => by obtain ⟨q1, q2⟩ := Kd.R_typed (h.r3 hs2) b hb2; obtain ⟨q3, q4⟩ := hty b e.symm; rw [q2] at q4; injection q4 with q4; injection q4 with _ q4; exact absurd q4 (by decide)))
  r4 := row_move (fun h_ => h_) h.r4 (fun b hs2 hb2 => far b (R_hlt (h.r4 hs2) b hb2) (fun e => by obtain ⟨q1, q2⟩ := Kd.R_typed (h.r4 hs2) b hb2; obtain ⟨q3, q4⟩ := hty b e.symm; rw [q2] at q4; injection q4 with q4; injection q4 with _ q4; exact absurd q4 (by decide)))
  o0 := h.o0
  o1 := h.o1
  o2 := fun _ => h0
  o3 := h.o3
  o4 := h.o4
  d := h.d
  al := fun hs => by
   obtain ⟨g3, e1, e2, e3⟩ := h.al hs
   exact ⟨g3, e1, blk_grown e2 hg (Kd.R_ne hR e2 (by decide)), e3⟩
  bd := fun hh => by have := (h.bd hh).2; simp [hs] at this }
theorem FI.append3 {v : Value} (h : FI w0 g1 g2 c1 c2 x0 x1 x2 x3 x4 s f w) (h0 : s 27 = true) (hs : s 35 = false) (hB : Below w0.heap.size w0 w1) (hr : Kd.R Kd.bool 4 w1 w0.heap.size (fun _ => True) v x3) (hg : w.grownBy w1 (f 27).ownBlock) (hat : v.ownBlock = (f 27).ownBlock ∨ ∃ b, v.ownBlock = some b ∧ w.heap.size ≤ b) :
  FI w0 g1 g2 c1 c2 x0 x1 x2 x3 x4 (upd s 35 true) (upd f 35 v) w1 := by
 have hc0 : cur s f 27 = f 27 := by unfold cur; rw [if_neg (by rw [hs]; decide)]
 have hR := h.r3 h0
 rw [hc0] at hR
 have hty := Kd.R_typed hR
 have hc : cur (upd s 35 true) (upd f 35 v) 27 = v := by unfold cur; rw [if_pos (show (upd s 35 true) (27 + 8) = true from rfl)]; rfl
 have far : ∀ k, k < w.heap.size → some k ≠ (f 27).ownBlock → w1.heap[k]? = w.heap[k]? := fun k hk hn => hg.block k hk hn
 exact {
  below := hB, b1 := blk_grown h.b1 hg (Kd.R_ne hR h.b1 (by decide)), b2 := blk_grown h.b2 hg (Kd.R_ne hR h.b2 (by decide))
  r0 := row_move (fun h_ => h_) h.r0 (fun b hs2 hb2 => far b (R_hlt (h.r0 hs2) b hb2) (fun e => by obtain ⟨q1, q2⟩ := Kd.R_typed (h.r0 hs2) b hb2; obtain ⟨q3, q4⟩ := hty b e.symm; rw [q2] at q4; injection q4 with q4; injection q4 with _ q4; exact absurd q4 (by decide)))
  r1 := row_move (fun h_ => h_) h.r1 (fun b hs2 hb2 => far b (R_hlt (h.r1 hs2) b hb2) (fun e => by obtain ⟨q1, q2⟩ := Kd.R_typed (h.r1 hs2) b hb2; obtain ⟨q3, q4⟩ := hty b e.symm; rw [q2] at q4; injection q4 with q4; injection q4 with _ q4; exact absurd q4 (by decide)))
  r2 := row_move (fun h_ => h_) h.r2 (fun b hs2 hb2 => far b (R_hlt (h.r2 hs2) b hb2) (fun e => by obtain ⟨q1, q2⟩ := Kd.R_typed (h.r2 hs2) b hb2; obtain ⟨q3, q4⟩ := hty b e.symm; rw [q2] at q4; injection q4 with q4; injection q4 with _ q4; exact absurd q4 (by decide)))
  r3 := fun _ => by rw [hc, if_pos (show (upd s 35 true) (27 + 8) = true from rfl)]; exact hr
  r4 := row_move (fun h_ => h_) h.r4 (fun b hs2 hb2 => far b (R_hlt (h.r4 hs2) b hb2) (fun e => by have hd := h.d h0 hs2; rw [hc0] at hd; exact hd b e.symm hb2))
  o0 := h.o0
  o1 := h.o1
  o2 := h.o2
  o3 := fun _ => h0
  o4 := h.o4
  d := fun h1 h2 => by
   rw [hc]
   have hd := h.d h1 h2
   rw [hc0] at hd
   obtain ⟨_, inner, ho, _⟩ := h.r4 h2
   exact ne_append hd hat ho
  al := fun hs => by
   obtain ⟨g3, e1, e2, e3⟩ := h.al hs
   exact ⟨g3, e1, blk_grown e2 hg (Kd.R_ne hR e2 (by decide)), e3⟩
  bd := fun hh => by have := (h.bd hh).2; simp [hs] at this }
theorem FI.append4 {v : Value} (h : FI w0 g1 g2 c1 c2 x0 x1 x2 x3 x4 s f w) (h0 : s 36 = true) (hs : s 44 = false) (hB : Below w0.heap.size w0 w1) (hr : Kd.R Kd.bool 4 w1 w0.heap.size (fun _ => True) v x4) (hg : w.grownBy w1 (f 36).ownBlock) (hat : v.ownBlock = (f 36).ownBlock ∨ ∃ b, v.ownBlock = some b ∧ w.heap.size ≤ b) :
  FI w0 g1 g2 c1 c2 x0 x1 x2 x3 x4 (upd s 44 true) (upd f 44 v) w1 := by
 have hc0 : cur s f 36 = f 36 := by unfold cur; rw [if_neg (by rw [hs]; decide)]
 have hR := h.r4 h0
 rw [hc0] at hR
 have hty := Kd.R_typed hR
 have hc : cur (upd s 44 true) (upd f 44 v) 36 = v := by unfold cur; rw [if_pos (show (upd s 44 true) (36 + 8) = true from rfl)]; rfl
 have far : ∀ k, k < w.heap.size → some k ≠ (f 36).ownBlock → w1.heap[k]? = w.heap[k]? := fun k hk hn => hg.block k hk hn
 exact {
  below := hB, b1 := blk_grown h.b1 hg (Kd.R_ne hR h.b1 (by decide)), b2 := blk_grown h.b2 hg (Kd.R_ne hR h.b2 (by decide))
  r0 := row_move (fun h_ => h_) h.r0 (fun b hs2 hb2 => far b (R_hlt (h.r0 hs2) b hb2) (fun e => by obtain ⟨q1, q2⟩ := Kd.R_typed (h.r0 hs2) b hb2; obtain ⟨q3, q4⟩ := hty b e.symm; rw [q2] at q4; injection q4 with q4; injection q4 with _ q4; exact absurd q4 (by decide)))
  r1 := row_move (fun h_ => h_) h.r1 (fun b hs2 hb2 => far b (R_hlt (h.r1 hs2) b hb2) (fun e => by obtain ⟨q1, q2⟩ := Kd.R_typed (h.r1 hs2) b hb2; obtain ⟨q3, q4⟩ := hty b e.symm; rw [q2] at q4; injection q4 with q4; injection q4 with _ q4; exact absurd q4 (by decide)))
  r2 := row_move (fun h_ => h_) h.r2 (fun b hs2 hb2 => far b (R_hlt (h.r2 hs2) b hb2) (fun e => by obtain ⟨q1, q2⟩ := Kd.R_typed (h.r2 hs2) b hb2; obtain ⟨q3, q4⟩ := hty b e.symm; rw [q2] at q4; injection q4 with q4; injection q4 with _ q4; exact absurd q4 (by decide)))
  r3 := row_move (fun h_ => h_) h.r3 (fun b hs2 hb2 => far b (R_hlt (h.r3 hs2) b hb2) (fun e => by have hd := h.d hs2 h0; rw [hc0] at hd; exact hd b hb2 e.symm))
  r4 := fun _ => by rw [hc, if_pos (show (upd s 44 true) (36 + 8) = true from rfl)]; exact hr
  o0 := h.o0
  o1 := h.o1
  o2 := h.o2
  o3 := h.o3
  o4 := fun _ => h0
  d := fun h1 h2 => by
   rw [hc]
   have hd := h.d h1 h2
   rw [hc0] at hd
   obtain ⟨_, inner, ho, _⟩ := h.r3 h1
   exact ne_append' hd hat ho
  al := fun hs => by
   obtain ⟨g3, e1, e2, e3⟩ := h.al hs
   exact ⟨g3, e1, blk_grown e2 hg (Kd.R_ne hR e2 (by decide)), e3⟩
  bd := fun hh => by have := (h.bd hh).2; simp [hs] at this }
theorem FI.alloc (h : FI w0 g1 g2 c1 c2 x0 x1 x2 x3 x4 s f w) (hb : Below w.heap.size w w1) {g3 : Nat} (he : w1.heap[g3]? = some (.cells #[.slice none 0 0, .slice none 0 0, .slice none 0 0, .slice none 0 0, .slice none 0 0] 27 (0, 0))) (h0 : w0.heap.size ≤ g3) (h2 : g2 < g3) :
  FI w0 g1 g2 c1 c2 x0 x1 x2 x3 x4 (upd s 46 true) (upd f 46 (.pointer (some ⟨g3, 0, none⟩))) w1 := by
 have q := h.step hb
 exact { below := q.below, b1 := q.b1, b2 := q.b2, r0 := q.r0, r1 := q.r1, r2 := q.r2, r3 := q.r3, r4 := q.r4, o0 := q.o0, o1 := q.o1, o2 := q.o2, o3 := q.o3, o4 := q.o4, d := q.d, al := fun _ => ⟨g3, rfl, he, h0, h2⟩, bd := q.bd }
theorem FI.build (h : FI w0 g1 g2 c1 c2 x0 x1 x2 x3 x4 s f w) (h1 : s 8 = true) (h2 : s 17 = true) (h3 : s 26 = true) (h4 : s 35 = true) (h5 : s 44 = true) :
  FI w0 g1 g2 c1 c2 x0 x1 x2 x3 x4 (upd s 45 true) (upd f 45 (.agg #[f 8, f 17, f 26, f 35, f 44])) w :=
 { below := h.below, b1 := h.b1, b2 := h.b2, r0 := h.r0, r1 := h.r1, r2 := h.r2, r3 := h.r3, r4 := h.r4, o0 := h.o0, o1 := h.o1, o2 := h.o2, o3 := h.o3, o4 := h.o4, d := h.d, al := h.al, bd := fun _ => ⟨rfl, h1, h2, h3, h4, h5⟩ }
end
end Go.Proofs.Ythobnoknbdljgaa.Hand
end
section
namespace Go.Proofs.Ythobnoknbdljgaa.Hand
open Go.RowKit Go.Proofs.YthobnoknbdljgaaW.PrintWords Go.Proofs.YthobnoknbdljgaaW.PrintLast Go.Proofs.YthobnoknbdljgaaW.PrintMore PB0
attribute [local irreducible] setL putL
attribute [local go_sem] max2_int min2_int max_two min_two
set_option linter.unusedVariables false
set_option linter.unusedSimpArgs false
theorem cut0 (A : Option Addr) (n c m : Nat) (h2 : m ≤ c) : ∀ W : World, (Instr.slice 22 (.slice A n c) none (some (.int .i64 (m : Int))) none).run Try.prog W = .ok (.slice A m c) W := by
 intro W
 have hel : Try.prog.elem 22 = 56 := by simp [Program.elem, Try.underlying22]
 obtain ⟨i0, hi, hz0, hz1, hz2⟩ := info_parts info_kind
 rw [run_slice_h W 22 A n c (by rw [hel]; exact Try.underlying22) .i64 (m : Int) (by omega) (by omega), hel]
 have hs : (sizeOf 56).run Try.prog W = .ok 3 W := by simp [sizeOf, typeInfo, hi, hz1]
 rw [hs]
 simp only [Result.andThen, sliced, add0, Nat.sub_zero, ite_self, Int.toNat_natCast]
theorem cut1 (A : Option Addr) (n c m : Nat) (h2 : m ≤ c) : ∀ W : World, (Instr.slice 23 (.slice A n c) none (some (.int .i64 (m : Int))) none).run Try.prog W = .ok (.slice A m c) W := by
 intro W
 have hel : Try.prog.elem 23 = 54 := by simp [Program.elem, Try.underlying23]
 obtain ⟨i0, hi, hz0, hz1, hz2⟩ := info_parts info_jump
 rw [run_slice_h W 23 A n c (by rw [hel]; exact Try.underlying23) .i64 (m : Int) (by omega) (by omega), hel]
 have hs : (sizeOf 54).run Try.prog W = .ok 2 W := by simp [sizeOf, typeInfo, hi, hz1]
 rw [hs]
 simp only [Result.andThen, sliced, add0, Nat.sub_zero, ite_self, Int.toNat_natCast]
theorem cut2 (A : Option Addr) (n c m : Nat) (h2 : m ≤ c) : ∀ W : World, (Instr.slice 24 (.slice A n c) none (some (.int .i64 (m : Int))) none).run Try.prog W = .ok (.slice A m c) W := by
 intro W
 have hel : Try.prog.elem 24 = 67 := by simp [Program.elem, Try.underlying24]
 obtain ⟨i0, hi, hz0, hz1, hz2⟩ := info_parts info_leap
 rw [run_slice_h W 24 A n c (by rw [hel]; exact Try.underlying24) .i64 (m : Int) (by omega) (by omega), hel]
 have hs : (sizeOf 67).run Try.prog W = .ok 2 W := by simp [sizeOf, typeInfo, hi, hz1]
 rw [hs]
 simp only [Result.andThen, sliced, add0, Nat.sub_zero, ite_self, Int.toNat_natCast]
theorem cut3 (A : Option Addr) (n c m : Nat) (h2 : m ≤ c) : ∀ W : World, (Instr.slice 25 (.slice A n c) none (some (.int .i64 (m : Int))) none).run Try.prog W = .ok (.slice A m c) W := by
 intro W
 have hel : Try.prog.elem 25 = 4 := by simp [Program.elem, Try.underlying25]
 obtain ⟨i0, hi, hz0, hz1, hz2⟩ := info_parts PE.info4
 rw [run_slice_h W 25 A n c (by rw [hel]; exact Try.underlying25) .i64 (m : Int) (by omega) (by omega), hel]
 have hs : (sizeOf 4).run Try.prog W = .ok 1 W := by simp [sizeOf, typeInfo, hi, hz1]
 rw [hs]
 simp only [Result.andThen, sliced, add0, Nat.sub_zero, ite_self, Int.toNat_natCast]
def fL : List (Nat × Nat) := [(5, 0), (13, 8), (14, 9), (22, 17), (23, 18), (31, 26), (32, 27), (40, 35), (41, 36), (49, 44), (50, 45), (3, 46)]
def fI : List Nat := [0, 8, 9, 17, 18, 26, 27, 35, 36, 44, 45, 46, 47]
theorem name_frame {P : Program} {ops : Array Oper} {Q : Exit → Act → World → Prop} {md : Region.Mode} {S : World → Prop} {z n : Nat} {ls : Array Bool} {a : Act} {w : World} (h : ∀ l0 a0, l0 = ls → a0 = a → wpZ P md ops Q S z n l0 a0 w) : wpZ P md ops Q S z n ls a w := h _ _ rfl rfl
theorem R_put5 {α : Type} {d : Kd α} {e B t g : Nat} {xs : List α} {v v0 v1 v2 v3 v4 : Value} {cs : Array Value} {W : World} (hd : ∀ {w : World} {ok1 ok2 : Nat → Prop} {x : α} {cs : List Value}, d.M w B ok1 x cs → d.M w B ok2 x cs) (hR : d.R e W B (fun _ => True) v xs) (hb3 : W.heap[g]? = some (.cells cs t (0, 0))) (hne : e ≠ t) :
  d.R e (((((W.setCell ⟨g, 0, none⟩ v0).setCell ⟨g, 1, none⟩ v1).setCell ⟨g, 2, none⟩ v2).setCell ⟨g, 3, none⟩ v3).setCell ⟨g, 4, none⟩ v4) B (fun _ => True) v xs := by
 have hty := Kd.R_typed hR
 refine Kd.R_flat hd (Kd.R_move (Kd.R_flat (ok' := fun k => v.ownBlock = some k) hd hR (fun k hk _ => hk)) (fun k hk => ?_)) (fun _ _ _ => trivial)
 obtain ⟨q1, q2⟩ := hty k hk
 have hk2 : k ≠ g := by
  rintro rfl
  rw [hb3] at q2
  injection q2 with q2
  injection q2 with _ q3 _
  exact hne q3.symm
 exact (put5_far q2 hk2).trans q2.symm
theorem skip_step {P : Program} {ops : Array Oper} {o : Oper} {a : Act} {Kc : Act → World → Prop} {Q : Exit → Act → World → Prop} {W w1 : World} (hw : Region.wanted o (yielded ops a.tmps) = true) (hrun : (execOp a.eval o).run P W = .ok .skip w1) (h : Kc (a.put o.dst undef) w1) : if Region.wanted o (yielded ops a.tmps) = true then Oper.wp P o a W Kc Q else Kc (a.put o.dst undef) W := by
 rw [if_pos hw]
 unfold Oper.wp
 rw [hrun]
 exact h
theorem not_mem_of_eq {l : List Nat} {i : Nat} (h : i ∈ l) (e : l = []) : False := by subst e; cases h
def cutK (x : S56) : S56 := ⟨x.f0, x.f1, x.f2.extract 0 (min x.f2.size 60)⟩
theorem cutS (s : ByteArray) (m : Nat) (h : m ≤ s.size) : ∀ W : World, (Instr.slice 9 (.string s) none (some (.int .i64 (m : Int))) none).run Try.prog W = .ok (.string (s.extract 0 m)) W := by
 intro W
 have h0 : (0 : Int) ≤ (m : Int) := by omega
 have h1 : (m : Int) ≤ (s.size : Int) := by omega
 simp [Instr.slice, run_underlying Try.underlying9, Instr.sliceBounds, Instr.sliceBound, asIntOf, h0, h1, h, go_sem]
def cutTo (k : Nat) (xs : List S56) : List S56 := (xs.take k).map cutK ++ xs.drop k
theorem cutTo_len (k : Nat) (xs : List S56) : (cutTo k xs).length = xs.length := by
 unfold cutTo
 rw [List.length_append, List.length_map, List.length_take, List.length_drop]
 omega
theorem cutTo_zero (xs : List S56) : cutTo 0 xs = xs := by simp [cutTo]
theorem cutTo_all (xs : List S56) : cutTo xs.length xs = xs.map cutK := by simp [cutTo]
theorem cutTo_rd (k : Nat) (xs : List S56) (h : k < xs.length) : rd_T56 (cutTo k xs) (k : Int) = xs[k] := by
 unfold rd_T56 cutTo
 rw [Int.toNat_natCast, List.getD_eq_getElem?_getD, List.getElem?_append_right (by simp; omega)]
 simp [Nat.min_eq_left (Nat.le_of_lt h), h]
theorem cutTo_set (k : Nat) (xs : List S56) (h : k < xs.length) : (cutTo k xs).set k (cutK xs[k]) = cutTo (k + 1) xs := by
 unfold cutTo
 have hl : ((xs.take k).map cutK).length = k := by rw [List.length_map, List.length_take]; omega
 rw [List.set_append_right _ _ (by omega), hl, Nat.sub_self, List.drop_eq_getElem_cons h, List.set_cons_zero, List.take_succ_eq_append_getElem h, List.map_append, List.append_assoc]
 rfl
theorem kind_at {e base g n cap : Nat} {W : World} {xs : List S56} (h : k56.R e W base (fun _ => True) (.slice (some ⟨g, 0, none⟩) n cap) xs) (i : Nat) (hi : i < n) :
  W.cell? ⟨g, i * 3 + 2, none⟩ = some (.string (rd_T56 xs (i : Int)).f2) := by
 obtain ⟨c, hcl, hM, hcc, hf⟩ := Kd.R_elem h z56 (i : Int) (by omega) (by omega)
 have hc := k56_openM hM
 rw [Int.toNat_natCast] at hcc
 have hs : k56.sz = 3 := rfl
 rw [hs] at hcc
 subst hc
 exact hcc 2 _ rfl
set_option maxHeartbeats 4000000 in
set_option maxRecDepth 100000 in
theorem few_walk (A0_0 : Option Addr) (c0_0 : Nat) (l0_0 : List S56) (A0_1 : Option Addr) (c0_1 : Nat) (l0_1 : List S54) (A0_2 : Option Addr) (c0_2 : Nat) (l0_2 : List S67) (A0_3 : Option Addr) (c0_3 : Nat) (l0_3 : List Bool) (A0_4 : Option Addr) (c0_4 : Nat) (l0_4 : List Bool) (w : World) (hr0_0 : Kd.C k56 w A0_0 l0_0.length l0_0) (hc0_0 : l0_0.length ≤ c0_0) (hr0_1 : Kd.C k54 w A0_1 l0_1.length l0_1) (hc0_1 : l0_1.length ≤ c0_1) (hr0_2 : Kd.C k67 w A0_2 l0_2.length l0_2) (hc0_2 : l0_2.length ≤ c0_2) (hr0_3 : Kd.C Kd.bool w A0_3 l0_3.length l0_3) (hc0_3 : l0_3.length ≤ c0_3) (hr0_4 : Kd.C Kd.bool w A0_4 l0_4.length l0_4) (hc0_4 : l0_4.length ≤ c0_4) :
  Calls Try.prog 12 #[.agg #[.slice A0_0 l0_0.length c0_0, .slice A0_1 l0_1.length c0_1, .slice A0_2 l0_2.length c0_2, .slice A0_3 l0_3.length c0_3, .slice A0_4 l0_4.length c0_4]] w fun e w' => ∃ v0_ v1_ v2_ v3_ v4_ : Value, e = .returned (.agg #[v0_, v1_, v2_, v3_, v4_]) ∧ Kd.R k56 56 w' w.heap.size (fun _ => True) v0_ ((l0_0.take 40).map cutK) ∧ Kd.R k54 54 w' w.heap.size (fun _ => True) v1_ (l0_1.take 100) ∧ Kd.R k67 67 w' w.heap.size (fun _ => True) v2_ (l0_2.take 50) ∧ Kd.R Kd.bool 4 w' w.heap.size (fun k_ => some k_ ≠ (v4_ : Value).ownBlock) v3_ (l0_3.take 40) ∧ Kd.R Kd.bool 4 w' w.heap.size (fun k_ => some k_ ≠ (v3_ : Value).ownBlock) v4_ (l0_4.take 40) ∧ Below w.heap.size w w' := by
 have hu27 := Try.underlying27
 have HB := Aside0.mk (Below.refl w.heap.size w)
 obtain ⟨m0, hm0⟩ : ∃ x, x = min l0_0.length 40 := ⟨_, rfl⟩
 have HX0 := Aside0.mk (show Kd.C k56 w A0_0 m0 (l0_0.take 40) by
  have h := Kd.C_take (m := m0) hr0_0 (by omega)
  rw [List.length_take, show min m0 l0_0.length = m0 by omega] at h
  have e : l0_0.take m0 = l0_0.take 40 := by rw [hm0, Nat.min_comm, ← List.take_take, List.take_length]
  rwa [e] at h)
 have HM0 := Aside0.mk (show m0 ≤ 40 by omega)
 have q0 : (if (40 : Int) < (l0_0.length : Int) then (40 : Int) else (l0_0.length : Int)) = (m0 : Int) := by split <;> omega
 have p0 := cut0 A0_0 l0_0.length c0_0 m0 (by omega)
 obtain ⟨n0, hn0⟩ : ∃ x, x = l0_0.length := ⟨_, rfl⟩
 rw [← hn0] at q0 p0
 have HN0 := Aside0.mk hn0
 clear hr0_0 hc0_0 hm0
 obtain ⟨m1, hm1⟩ : ∃ x, x = min l0_1.length 100 := ⟨_, rfl⟩
 have HX1 := Aside0.mk (show Kd.C k54 w A0_1 m1 (l0_1.take 100) by
  have h := Kd.C_take (m := m1) hr0_1 (by omega)
  rw [List.length_take, show min m1 l0_1.length = m1 by omega] at h
  have e : l0_1.take m1 = l0_1.take 100 := by rw [hm1, Nat.min_comm, ← List.take_take, List.take_length]
  rwa [e] at h)
 have HM1 := Aside0.mk (show m1 ≤ 100 by omega)
 have q1 : (if (100 : Int) < (l0_1.length : Int) then (100 : Int) else (l0_1.length : Int)) = (m1 : Int) := by split <;> omega
 have p1 := cut1 A0_1 l0_1.length c0_1 m1 (by omega)
 obtain ⟨n1, hn1⟩ : ∃ x, x = l0_1.length := ⟨_, rfl⟩
 rw [← hn1] at q1 p1
 have HN1 := Aside0.mk hn1
 clear hr0_1 hc0_1 hm1
 obtain ⟨m2, hm2⟩ : ∃ x, x = min l0_2.length 50 := ⟨_, rfl⟩
 have HX2 := Aside0.mk (show Kd.C k67 w A0_2 m2 (l0_2.take 50) by
  have h := Kd.C_take (m := m2) hr0_2 (by omega)
  rw [List.length_take, show min m2 l0_2.length = m2 by omega] at h
  have e : l0_2.take m2 = l0_2.take 50 := by rw [hm2, Nat.min_comm, ← List.take_take, List.take_length]
  rwa [e] at h)
 have HM2 := Aside0.mk (show m2 ≤ 50 by omega)
 have q2 : (if (50 : Int) < (l0_2.length : Int) then (50 : Int) else (l0_2.length : Int)) = (m2 : Int) := by split <;> omega
 have p2 := cut2 A0_2 l0_2.length c0_2 m2 (by omega)
 obtain ⟨n2, hn2⟩ : ∃ x, x = l0_2.length := ⟨_, rfl⟩
 rw [← hn2] at q2 p2
 have HN2 := Aside0.mk hn2
 clear hr0_2 hc0_2 hm2
 obtain ⟨m3, hm3⟩ : ∃ x, x = min l0_3.length 40 := ⟨_, rfl⟩
 have HX3 := Aside0.mk (show Kd.C Kd.bool w A0_3 m3 (l0_3.take 40) by
  have h := Kd.C_take (m := m3) hr0_3 (by omega)
  rw [List.length_take, show min m3 l0_3.length = m3 by omega] at h
  have e : l0_3.take m3 = l0_3.take 40 := by rw [hm3, Nat.min_comm, ← List.take_take, List.take_length]
  rwa [e] at h)
 have HM3 := Aside0.mk (show m3 ≤ 40 by omega)
 have q3 : (if (40 : Int) < (l0_3.length : Int) then (40 : Int) else (l0_3.length : Int)) = (m3 : Int) := by split <;> omega
 have p3 := cut3 A0_3 l0_3.length c0_3 m3 (by omega)
 obtain ⟨n3, hn3⟩ : ∃ x, x = l0_3.length := ⟨_, rfl⟩
 rw [← hn3] at q3 p3
 have HN3 := Aside0.mk hn3
 clear hr0_3 hc0_3 hm3
 obtain ⟨m4, hm4⟩ : ∃ x, x = min l0_4.length 40 := ⟨_, rfl⟩
 have HX4 := Aside0.mk (show Kd.C Kd.bool w A0_4 m4 (l0_4.take 40) by
  have h := Kd.C_take (m := m4) hr0_4 (by omega)
  rw [List.length_take, show min m4 l0_4.length = m4 by omega] at h
  have e : l0_4.take m4 = l0_4.take 40 := by rw [hm4, Nat.min_comm, ← List.take_take, List.take_length]
  rwa [e] at h)
 have HM4 := Aside0.mk (show m4 ≤ 40 by omega)
 have q4 : (if (40 : Int) < (l0_4.length : Int) then (40 : Int) else (l0_4.length : Int)) = (m4 : Int) := by split <;> omega
 have p4 := cut3 A0_4 l0_4.length c0_4 m4 (by omega)
 obtain ⟨n4, hn4⟩ : ∃ x, x = l0_4.length := ⟨_, rfl⟩
 rw [← hn4] at q4 p4
 have HN4 := Aside0.mk hn4
 clear hr0_4 hc0_4 hm4
 rw [← hn0, ← hn1, ← hn2, ← hn3, ← hn4]
 clear hn0 hn1 hn2 hn3 hn4
 go_enter Try.func12, Try.ntmps12
 go_upto_region 1 with (first
  | ((with_reducible refine gate_dst (N := 1) rfl ?_); refine box_event ?hg (N := 1) ?hd (cs := #[.slice A0_0 n0 c0_0, .slice A0_1 n1 c0_1, .slice A0_2 n2 c0_2, .slice A0_3 n3 c0_3, .slice A0_4 n4 c0_4]) (t := 27) ?hr ?_; (case hd => rfl); (case hg => rfl); (case hr => first | (go_simp; done) | (go_simp; rfl)); intro g1 hg w1 hbox hb; have Bg1 := Aside0.mk hbox; have GEg1 := Aside0.mk (show w.heap.size ≤ g1 by first | omega | (have h_ := below_size HB.out; omega)); clear hbox hg; have n0_ := Aside0.mk (below_step HB.out hb); clear HB; have HB := n0_; clear n0_ hb)
  | ((with_reducible refine gate_dst (N := 2) rfl ?_); refine box_event ?hg (N := 2) ?hd (cs := #[.slice none 0 0, .slice none 0 0, .slice none 0 0, .slice none 0 0, .slice none 0 0]) (t := 27) ?hr ?_; (case hd => rfl); (case hg => rfl); (case hr => first | (go_simp; done) | (go_simp; rfl)); intro g2 hg w2 hbox hb; have Bg2 := Aside0.mk hbox; have GEg2 := Aside0.mk (show w.heap.size ≤ g2 by first | omega | (have h_ := below_size HB.out; omega)); have NE12 := Aside0.mk (show g1 < g2 by have := blk_lt Bg1.out; omega); have HG2 := Aside0.mk (show w.heap.size ≤ g2 by have := HB.out.size; omega); clear hbox hg; have n0_ := Aside0.mk (blk_below Bg1.out hb); have n1_ := Aside0.mk (below_step HB.out hb); clear Bg1 HB; have Bg1 := n0_; have HB := n1_; clear n0_ n1_ hb))
 have B1 := Bg1
 have B2 := Bg2
 clear Bg1 Bg2
 refine region_Z 99 (fun w' => w'.cell? ⟨g1, 0, none⟩ = some (.slice A0_0 n0 c0_0) ∧ w'.cell? ⟨g1, 1, none⟩ = some (.slice A0_1 n1 c0_1) ∧ w'.cell? ⟨g1, 2, none⟩ = some (.slice A0_2 n2 c0_2) ∧ w'.cell? ⟨g1, 3, none⟩ = some (.slice A0_3 n3 c0_3) ∧ w'.cell? ⟨g1, 4, none⟩ = some (.slice A0_4 n4 c0_4)) (by kernel_rfl) ?_
 refine zt 1 (⟨(blk_cell B1.out 0).trans rfl, (blk_cell B1.out 1).trans rfl, (blk_cell B1.out 2).trans rfl, (blk_cell B1.out 3).trans rfl, (blk_cell B1.out 4).trans rfl⟩) ?_; refine zt 2 (⟨(blk_cell B1.out 0).trans rfl, (blk_cell B1.out 1).trans rfl, (blk_cell B1.out 2).trans rfl, (blk_cell B1.out 3).trans rfl, (blk_cell B1.out 4).trans rfl⟩) ?_; refine zt 3 (⟨(blk_cell B1.out 0).trans rfl, (blk_cell B1.out 1).trans rfl, (blk_cell B1.out 2).trans rfl, (blk_cell B1.out 3).trans rfl, (blk_cell B1.out 4).trans rfl⟩) ?_; refine zt 4 (⟨(blk_cell B1.out 0).trans rfl, (blk_cell B1.out 1).trans rfl, (blk_cell B1.out 2).trans rfl, (blk_cell B1.out 3).trans rfl, (blk_cell B1.out 4).trans rfl⟩) ?_; refine zt 5 (⟨(blk_cell B1.out 0).trans rfl, (blk_cell B1.out 1).trans rfl, (blk_cell B1.out 2).trans rfl, (blk_cell B1.out 3).trans rfl, (blk_cell B1.out 4).trans rfl⟩) ?_; refine zt 6 (⟨(blk_cell B1.out 0).trans rfl, (blk_cell B1.out 1).trans rfl, (blk_cell B1.out 2).trans rfl, (blk_cell B1.out 3).trans rfl, (blk_cell B1.out 4).trans rfl⟩) ?_; refine zt 7 (⟨(blk_cell B1.out 0).trans rfl, (blk_cell B1.out 1).trans rfl, (blk_cell B1.out 2).trans rfl, (blk_cell B1.out 3).trans rfl, (blk_cell B1.out 4).trans rfl⟩) ?_; refine zt 10 (⟨(blk_cell B1.out 0).trans rfl, (blk_cell B1.out 1).trans rfl, (blk_cell B1.out 2).trans rfl, (blk_cell B1.out 3).trans rfl, (blk_cell B1.out 4).trans rfl⟩) ?_; refine zt 11 (⟨(blk_cell B1.out 0).trans rfl, (blk_cell B1.out 1).trans rfl, (blk_cell B1.out 2).trans rfl, (blk_cell B1.out 3).trans rfl, (blk_cell B1.out 4).trans rfl⟩) ?_; refine zt 12 (⟨(blk_cell B1.out 0).trans rfl, (blk_cell B1.out 1).trans rfl, (blk_cell B1.out 2).trans rfl, (blk_cell B1.out 3).trans rfl, (blk_cell B1.out 4).trans rfl⟩) ?_; refine zt 13 (⟨(blk_cell B1.out 0).trans rfl, (blk_cell B1.out 1).trans rfl, (blk_cell B1.out 2).trans rfl, (blk_cell B1.out 3).trans rfl, (blk_cell B1.out 4).trans rfl⟩) ?_; refine zt 14 (⟨(blk_cell B1.out 0).trans rfl, (blk_cell B1.out 1).trans rfl, (blk_cell B1.out 2).trans rfl, (blk_cell B1.out 3).trans rfl, (blk_cell B1.out 4).trans rfl⟩) ?_; refine zt 15 (⟨(blk_cell B1.out 0).trans rfl, (blk_cell B1.out 1).trans rfl, (blk_cell B1.out 2).trans rfl, (blk_cell B1.out 3).trans rfl, (blk_cell B1.out 4).trans rfl⟩) ?_; refine zt 16 (⟨(blk_cell B1.out 0).trans rfl, (blk_cell B1.out 1).trans rfl, (blk_cell B1.out 2).trans rfl, (blk_cell B1.out 3).trans rfl, (blk_cell B1.out 4).trans rfl⟩) ?_; refine zt 19 (⟨(blk_cell B1.out 0).trans rfl, (blk_cell B1.out 1).trans rfl, (blk_cell B1.out 2).trans rfl, (blk_cell B1.out 3).trans rfl, (blk_cell B1.out 4).trans rfl⟩) ?_; refine zt 20 (⟨(blk_cell B1.out 0).trans rfl, (blk_cell B1.out 1).trans rfl, (blk_cell B1.out 2).trans rfl, (blk_cell B1.out 3).trans rfl, (blk_cell B1.out 4).trans rfl⟩) ?_; refine zt 21 (⟨(blk_cell B1.out 0).trans rfl, (blk_cell B1.out 1).trans rfl, (blk_cell B1.out 2).trans rfl, (blk_cell B1.out 3).trans rfl, (blk_cell B1.out 4).trans rfl⟩) ?_; refine zt 22 (⟨(blk_cell B1.out 0).trans rfl, (blk_cell B1.out 1).trans rfl, (blk_cell B1.out 2).trans rfl, (blk_cell B1.out 3).trans rfl, (blk_cell B1.out 4).trans rfl⟩) ?_; refine zt 23 (⟨(blk_cell B1.out 0).trans rfl, (blk_cell B1.out 1).trans rfl, (blk_cell B1.out 2).trans rfl, (blk_cell B1.out 3).trans rfl, (blk_cell B1.out 4).trans rfl⟩) ?_; refine zt 24 (⟨(blk_cell B1.out 0).trans rfl, (blk_cell B1.out 1).trans rfl, (blk_cell B1.out 2).trans rfl, (blk_cell B1.out 3).trans rfl, (blk_cell B1.out 4).trans rfl⟩) ?_; refine zt 25 (⟨(blk_cell B1.out 0).trans rfl, (blk_cell B1.out 1).trans rfl, (blk_cell B1.out 2).trans rfl, (blk_cell B1.out 3).trans rfl, (blk_cell B1.out 4).trans rfl⟩) ?_; refine zt 28 (⟨(blk_cell B1.out 0).trans rfl, (blk_cell B1.out 1).trans rfl, (blk_cell B1.out 2).trans rfl, (blk_cell B1.out 3).trans rfl, (blk_cell B1.out 4).trans rfl⟩) ?_; refine zt 29 (⟨(blk_cell B1.out 0).trans rfl, (blk_cell B1.out 1).trans rfl, (blk_cell B1.out 2).trans rfl, (blk_cell B1.out 3).trans rfl, (blk_cell B1.out 4).trans rfl⟩) ?_; refine zt 30 (⟨(blk_cell B1.out 0).trans rfl, (blk_cell B1.out 1).trans rfl, (blk_cell B1.out 2).trans rfl, (blk_cell B1.out 3).trans rfl, (blk_cell B1.out 4).trans rfl⟩) ?_; refine zt 31 (⟨(blk_cell B1.out 0).trans rfl, (blk_cell B1.out 1).trans rfl, (blk_cell B1.out 2).trans rfl, (blk_cell B1.out 3).trans rfl, (blk_cell B1.out 4).trans rfl⟩) ?_; refine zt 32 (⟨(blk_cell B1.out 0).trans rfl, (blk_cell B1.out 1).trans rfl, (blk_cell B1.out 2).trans rfl, (blk_cell B1.out 3).trans rfl, (blk_cell B1.out 4).trans rfl⟩) ?_; refine zt 33 (⟨(blk_cell B1.out 0).trans rfl, (blk_cell B1.out 1).trans rfl, (blk_cell B1.out 2).trans rfl, (blk_cell B1.out 3).trans rfl, (blk_cell B1.out 4).trans rfl⟩) ?_; refine zt 34 (⟨(blk_cell B1.out 0).trans rfl, (blk_cell B1.out 1).trans rfl, (blk_cell B1.out 2).trans rfl, (blk_cell B1.out 3).trans rfl, (blk_cell B1.out 4).trans rfl⟩) ?_; refine zt 37 (⟨(blk_cell B1.out 0).trans rfl, (blk_cell B1.out 1).trans rfl, (blk_cell B1.out 2).trans rfl, (blk_cell B1.out 3).trans rfl, (blk_cell B1.out 4).trans rfl⟩) ?_; refine zt 38 (⟨(blk_cell B1.out 0).trans rfl, (blk_cell B1.out 1).trans rfl, (blk_cell B1.out 2).trans rfl, (blk_cell B1.out 3).trans rfl, (blk_cell B1.out 4).trans rfl⟩) ?_; refine zt 39 (⟨(blk_cell B1.out 0).trans rfl, (blk_cell B1.out 1).trans rfl, (blk_cell B1.out 2).trans rfl, (blk_cell B1.out 3).trans rfl, (blk_cell B1.out 4).trans rfl⟩) ?_; refine zt 40 (⟨(blk_cell B1.out 0).trans rfl, (blk_cell B1.out 1).trans rfl, (blk_cell B1.out 2).trans rfl, (blk_cell B1.out 3).trans rfl, (blk_cell B1.out 4).trans rfl⟩) ?_; refine zt 41 (⟨(blk_cell B1.out 0).trans rfl, (blk_cell B1.out 1).trans rfl, (blk_cell B1.out 2).trans rfl, (blk_cell B1.out 3).trans rfl, (blk_cell B1.out 4).trans rfl⟩) ?_; refine zt 42 (⟨(blk_cell B1.out 0).trans rfl, (blk_cell B1.out 1).trans rfl, (blk_cell B1.out 2).trans rfl, (blk_cell B1.out 3).trans rfl, (blk_cell B1.out 4).trans rfl⟩) ?_; refine zt 43 (⟨(blk_cell B1.out 0).trans rfl, (blk_cell B1.out 1).trans rfl, (blk_cell B1.out 2).trans rfl, (blk_cell B1.out 3).trans rfl, (blk_cell B1.out 4).trans rfl⟩) ?_
 clear q0 q1 q2 q3 q4 p0 p1 p2 p3 p4
 refine name_frame ?_
 intro l0 a0 hl ha
 have hl2 : l0 = #[false, true, true, true, true, true, true, true, false, false, true, true, true, true, true, true, true, false, false, true, true, true, true, true, true, true, false, false, true, true, true, true, true, true, true, false, false, true, true, true, true, true, true, true, false, false, false, false] := hl.trans (by kernel_rfl)
 have HL0 := Aside0.mk hl2
 have HA0 := Aside0.mk ha
 clear hl hl2 ha
 refine Z_inv (fun ls a W => (∃ (s : Nat → Bool) (f : Nat → Value), s 47 = false ∧ ls = setL l0 fI s ∧ a = putL a0 fL f ∧ FI w g1 g2 #[.slice A0_0 n0 c0_0, .slice A0_1 n1 c0_1, .slice A0_2 n2 c0_2, .slice A0_3 n3 c0_3, .slice A0_4 n4 c0_4] #[.slice none 0 0, .slice none 0 0, .slice none 0 0, .slice none 0 0, .slice none 0 0] (l0_0.take 40) (l0_1.take 100) (l0_2.take 50) (l0_3.take 40) (l0_4.take 40) s f W) ∨ (ls = setL l0 fI (fun _ => true) ∧ ∃ f g3, a = putL a0 fL f ∧ f 46 = .pointer (some ⟨g3, 0, none⟩) ∧ W.heap[g3]? = some (.cells #[f 8, f 17, f 26, f 35, f 44] 27 (0, 0)) ∧ Kd.R k56 56 W w.heap.size (fun _ => True) (f 8) (l0_0.take 40) ∧ Kd.R k54 54 W w.heap.size (fun _ => True) (f 17) (l0_1.take 100) ∧ Kd.R k67 67 W w.heap.size (fun _ => True) (f 26) (l0_2.take 50) ∧ Kd.R Kd.bool 4 W w.heap.size (fun _ => True) (f 35) (l0_3.take 40) ∧ Kd.R Kd.bool 4 W w.heap.size (fun _ => True) (f 44) (l0_4.take 40) ∧ NeRow (f 35) (f 44) ∧ W.heap[g2]? = some (.cells #[.slice none 0 0, .slice none 0 0, .slice none 0 0, .slice none 0 0, .slice none 0 0] 27 (0, 0)) ∧ g2 < g3 ∧ w.heap.size ≤ g3 ∧ Below w.heap.size w W)) ?he ?hs _ _ _ _ ?hn ?h0
 case hn => rw [HL0.out]; decide
 case h0 =>
  refine .inl ⟨fun _ => false, fun _ => undef, rfl, ?_, ?_, ?_⟩
  ·
   rw [HL0.out]; kernel_rfl
  ·
   refine (putL_self ?_).symm
   rw [HA0.out]
   intro p hp
   simp only [fL, List.mem_cons, List.not_mem_nil, or_false] at hp
   rcases hp with rfl | rfl | rfl | rfl | rfl | rfl | rfl | rfl | rfl | rfl | rfl | rfl
   all_goals rfl
  exact { below := below_drew1 HB.out, b1 := B1.out, b2 := B2.out, r0 := fun h => (by cases h), r1 := fun h => (by cases h), r2 := fun h => (by cases h), r3 := fun h => (by cases h), r4 := fun h => (by cases h), o0 := fun h => (by cases h), o1 := fun h => (by cases h), o2 := fun h => (by cases h), o3 := fun h => (by cases h), o4 := fun h => (by cases h), d := fun h => (by cases h), al := fun h => (by cases h), bd := fun h => (by cases h) }
 case hs =>
  rintro ls a W (⟨s, f, h47, rfl, rfl, h⟩ | ⟨rfl, _⟩) i hm
  ·
   have eL := HL0.out
   have eA := HA0.out
   clear HL0 HA0 B1 B2 HB hu27
   have nd1 : fI.Nodup := by decide
   have nd2 : (fL.map Prod.fst).Nodup := by decide
   have nd3 : (fL.map Prod.snd).Nodup := by decide
   have hlz : l0.size = 48 := by rw [eL]; rfl
   have haz : 50 < a0.tmps.size := by rw [eA]; exact Nat.le_of_ble_eq_true rfl
   have hi : i < 48 := by have h_ := ready_lt hm; rw [setL_size, hlz] at h_; exact h_
   have hin : i ∈ fI := by
    refine Decidable.byContradiction fun hn => ?_
    have h_ := ready_false hm
    rw [setL_out fI s hn, eL] at h_
    exact absurd h_ ((by decide : ∀ k, k < 48 → k ∉ fI → ¬ (#[false, true, true, true, true, true, true, true, false, false, true, true, true, true, true, true, true, false, false, true, true, true, true, true, true, true, false, false, true, true, true, true, true, true, true, false, false, true, true, true, true, true, true, true, false, false, false, false] : Array Bool).getD k true = false) i hi hn)
   have hf : s i = false := by have h_ := ready_false hm; rwa [setL_in fI nd1 hin s l0 (by omega)] at h_
   have dep := fun (k : Nat) (hk : k ∈ fI) (hw : zwaits .any _ i k = true) => (setL_in fI nd1 hk s l0 (by rw [hlz]; exact (by decide : ∀ k ∈ fI, k < 48) k hk)).symm.trans (ready_dep hm hw)
   have hbelow := h.below
   have hsz : w.heap.size ≤ W.heap.size := hbelow.size
   have hS : ∀ W1 : World, W1.heap[g1]? = some (.cells #[.slice A0_0 n0 c0_0, .slice A0_1 n1 c0_1, .slice A0_2 n2 c0_2, .slice A0_3 n3 c0_3, .slice A0_4 n4 c0_4] 27 (0, 0)) → (W1.cell? ⟨g1, 0, none⟩ = some (.slice A0_0 n0 c0_0) ∧ W1.cell? ⟨g1, 1, none⟩ = some (.slice A0_1 n1 c0_1) ∧ W1.cell? ⟨g1, 2, none⟩ = some (.slice A0_2 n2 c0_2) ∧ W1.cell? ⟨g1, 3, none⟩ = some (.slice A0_3 n3 c0_3) ∧ W1.cell? ⟨g1, 4, none⟩ = some (.slice A0_4 n4 c0_4)) := fun W1 hb => ⟨(blk_cell hb 0).trans rfl, (blk_cell hb 1).trans rfl, (blk_cell hb 2).trans rfl, (blk_cell hb 3).trans rfl, (blk_cell hb 4).trans rfl⟩
   clear hm
   simp only [fI, List.mem_cons, List.not_mem_nil, or_false] at hin
   rcases hin with rfl | rfl | rfl | rfl | rfl | rfl | rfl | rfl | rfl | rfl | rfl | rfl | rfl
   ·
    have hs0 : s 0 = false := hf
    refine wpOp_step rfl (fun K hK => ?_)
    refine Kd.R_lit_step k56 (w0 := w) w.heap.size 56 (by rfl) (N := 5) rfl (xs := []) (inner := []) (ok := fun _ => True) (okp := fun _ => False) ?hrun (Reps.none _ _) (fun _ h_ => h_.elim) trivial hbelow hsz (by simp) ?_
    case hrun => first | (go_simp; done) | (go_simp; rfl)
    intro v1 w1 hr hb hg hnew
    have h1 := h.empty0 hs0 (pw_below_grown (Below.refl W.heap.size W) none (Nat.le_refl _) hg (fun _ h_ => by cases h_)) hr hnew
    exact hK _ _ ⟨fun _ => hS _ h1.b1, .inl ⟨upd s 0 true, upd f 0 v1, h47, setL_upd fI nd1 (by decide) s true _, putL_upd fL nd2 nd3 (by decide) f _ _, h1⟩⟩
   ·
    have hs8 : s 8 = false := hf
    have hs0 : s 0 = true := dep 0 (by decide) (by kernel_rfl)
    have hrow := h.r0 hs0
    unfold cur at hrow
    rw [if_neg (by rw [hs8]; decide), if_neg (by rw [hs8]; decide)] at hrow
    refine wpOp_step rfl (fun K hK => ?_)
    refine Kd.R_append_rows_step k56 (w0 := w) (Rr := Kd.K k56 W) w.heap.size (by rfl) (.tmp 5) (.tmp 12) 22 56 (.agg #[.int .i64 0, .bool false, .string ⟨#[]⟩]) 32 rfl Try.underlying22 info_kind rfl (by decide) (by decide) (f 0) [] (l0_0.take 40) A0_0 m0 c0_0 (fun _ => True) (fun _ => False) (ev_in nd2 (by decide) f (by omega)) ((ev_out (by decide) f).trans (by rw [eA]; rfl)) hrow (Kd.C_below HX0.out hbelow) (fun x cs h_ => by rw [k56_open h_]; exact k56_mkM _ _ _ _) (fun _ h_ => h_.elim) (fun _ _ => trivial) hbelow hsz (by have h_ := HM0.out; simp only [List.length_nil]; omega) ?_
    intro v1 w1 hr hb hg hat
    rw [List.nil_append] at hr
    have h1 := h.append0 hs0 hs8 hb hr hg hat
    exact hK _ _ ⟨fun _ => hS _ h1.b1, .inl ⟨upd s 8 true, upd f 8 v1, h47, setL_upd fI nd1 (by decide) s true _, putL_upd fL nd2 nd3 (by decide) f _ _, h1⟩⟩
   ·
    have hs0 : s 9 = false := hf
    refine wpOp_step rfl (fun K hK => ?_)
    refine Kd.R_lit_step k54 (w0 := w) w.heap.size 54 (by rfl) (N := 14) rfl (xs := []) (inner := []) (ok := fun _ => True) (okp := fun _ => False) ?hrun (Reps.none _ _) (fun _ h_ => h_.elim) trivial hbelow hsz (by simp) ?_
    case hrun => first | (go_simp; done) | (go_simp; rfl)
    intro v1 w1 hr hb hg hnew
    have h1 := h.empty1 hs0 (pw_below_grown (Below.refl W.heap.size W) none (Nat.le_refl _) hg (fun _ h_ => by cases h_)) hr hnew
    exact hK _ _ ⟨fun _ => hS _ h1.b1, .inl ⟨upd s 9 true, upd f 9 v1, h47, setL_upd fI nd1 (by decide) s true _, putL_upd fL nd2 nd3 (by decide) f _ _, h1⟩⟩
   ·
    have hs8 : s 17 = false := hf
    have hs0 : s 9 = true := dep 9 (by decide) (by kernel_rfl)
    have hrow := h.r1 hs0
    unfold cur at hrow
    rw [if_neg (by rw [hs8]; decide), if_neg (by rw [hs8]; decide)] at hrow
    refine wpOp_step rfl (fun K hK => ?_)
    refine Kd.R_append_rows_step k54 (w0 := w) (Rr := Kd.K k54 W) w.heap.size (by rfl) (.tmp 14) (.tmp 21) 23 54 (.agg #[.int .i64 0, .int .i64 0]) 16 rfl Try.underlying23 info_jump rfl (by decide) (by decide) (f 9) [] (l0_1.take 100) A0_1 m1 c0_1 (fun _ => True) (fun _ => False) (ev_in nd2 (by decide) f (by omega)) ((ev_out (by decide) f).trans (by rw [eA]; rfl)) hrow (Kd.C_below HX1.out hbelow) (fun x cs h_ => by rw [k54_open h_]; exact k54_mkM _ _ _ _) (fun _ h_ => h_.elim) (fun _ _ => trivial) hbelow hsz (by have h_ := HM1.out; simp only [List.length_nil]; omega) ?_
    intro v1 w1 hr hb hg hat
    rw [List.nil_append] at hr
    have h1 := h.append1 hs0 hs8 hb hr hg hat
    exact hK _ _ ⟨fun _ => hS _ h1.b1, .inl ⟨upd s 17 true, upd f 17 v1, h47, setL_upd fI nd1 (by decide) s true _, putL_upd fL nd2 nd3 (by decide) f _ _, h1⟩⟩
   ·
    have hs0 : s 18 = false := hf
    refine wpOp_step rfl (fun K hK => ?_)
    refine Kd.R_lit_step k67 (w0 := w) w.heap.size 67 (by rfl) (N := 23) rfl (xs := []) (inner := []) (ok := fun _ => True) (okp := fun _ => False) ?hrun (Reps.none _ _) (fun _ h_ => h_.elim) trivial hbelow hsz (by simp) ?_
    case hrun => first | (go_simp; done) | (go_simp; rfl)
    intro v1 w1 hr hb hg hnew
    have h1 := h.empty2 hs0 (pw_below_grown (Below.refl W.heap.size W) none (Nat.le_refl _) hg (fun _ h_ => by cases h_)) hr hnew
    exact hK _ _ ⟨fun _ => hS _ h1.b1, .inl ⟨upd s 18 true, upd f 18 v1, h47, setL_upd fI nd1 (by decide) s true _, putL_upd fL nd2 nd3 (by decide) f _ _, h1⟩⟩
   ·
    have hs8 : s 26 = false := hf
    have hs0 : s 18 = true := dep 18 (by decide) (by kernel_rfl)
    have hrow := h.r2 hs0
    unfold cur at hrow
    rw [if_neg (by rw [hs8]; decide), if_neg (by rw [hs8]; decide)] at hrow
    refine wpOp_step rfl (fun K hK => ?_)
    refine Kd.R_append_rows_step k67 (w0 := w) (Rr := Kd.K k67 W) w.heap.size (by rfl) (.tmp 23) (.tmp 30) 24 67 (.agg #[.int .i64 0, .int .i64 0]) 16 rfl Try.underlying24 info_leap rfl (by decide) (by decide) (f 18) [] (l0_2.take 50) A0_2 m2 c0_2 (fun _ => True) (fun _ => False) (ev_in nd2 (by decide) f (by omega)) ((ev_out (by decide) f).trans (by rw [eA]; rfl)) hrow (Kd.C_below HX2.out hbelow) (fun x cs h_ => by rw [k67_open h_]; exact k67_mkM _ _ _ _) (fun _ h_ => h_.elim) (fun _ _ => trivial) hbelow hsz (by have h_ := HM2.out; simp only [List.length_nil]; omega) ?_
    intro v1 w1 hr hb hg hat
    rw [List.nil_append] at hr
    have h1 := h.append2 hs0 hs8 hb hr hg hat
    exact hK _ _ ⟨fun _ => hS _ h1.b1, .inl ⟨upd s 26 true, upd f 26 v1, h47, setL_upd fI nd1 (by decide) s true _, putL_upd fL nd2 nd3 (by decide) f _ _, h1⟩⟩
   ·
    have hs0 : s 27 = false := hf
    refine wpOp_step rfl (fun K hK => ?_)
    refine Kd.R_lit_step Kd.bool (w0 := w) w.heap.size 4 (by rfl) (N := 32) rfl (xs := []) (inner := []) (ok := fun _ => True) (okp := fun _ => False) ?hrun (Reps.none _ _) (fun _ h_ => h_.elim) trivial hbelow hsz (by simp) ?_
    case hrun => first | (go_simp; done) | (go_simp; rfl)
    intro v1 w1 hr hb hg hnew
    have h1 := h.empty3 hs0 (pw_below_grown (Below.refl W.heap.size W) none (Nat.le_refl _) hg (fun _ h_ => by cases h_)) hr hnew
    exact hK _ _ ⟨fun _ => hS _ h1.b1, .inl ⟨upd s 27 true, upd f 27 v1, h47, setL_upd fI nd1 (by decide) s true _, putL_upd fL nd2 nd3 (by decide) f _ _, h1⟩⟩
   ·
    have hs8 : s 35 = false := hf
    have hs0 : s 27 = true := dep 27 (by decide) (by kernel_rfl)
    have hrow := h.r3 hs0
    unfold cur at hrow
    rw [if_neg (by rw [hs8]; decide), if_neg (by rw [hs8]; decide)] at hrow
    refine wpOp_step rfl (fun K hK => ?_)
    refine Kd.R_append_rows_step Kd.bool (w0 := w) (Rr := Kd.K Kd.bool W) w.heap.size (by rfl) (.tmp 32) (.tmp 39) 25 4 (.bool false) 1 rfl Try.underlying25 PE.info4 rfl (by decide) (by decide) (f 27) [] (l0_3.take 40) A0_3 m3 c0_3 (fun _ => True) (fun _ => False) (ev_in nd2 (by decide) f (by omega)) ((ev_out (by decide) f).trans (by rw [eA]; rfl)) hrow (Kd.C_below HX3.out hbelow) (fun _ _ h_ => h_) (fun _ h_ => h_.elim) (fun _ _ => trivial) hbelow hsz (by have h_ := HM3.out; simp only [List.length_nil]; omega) ?_
    intro v1 w1 hr hb hg hat
    rw [List.nil_append] at hr
    have h1 := h.append3 hs0 hs8 hb hr hg hat
    exact hK _ _ ⟨fun _ => hS _ h1.b1, .inl ⟨upd s 35 true, upd f 35 v1, h47, setL_upd fI nd1 (by decide) s true _, putL_upd fL nd2 nd3 (by decide) f _ _, h1⟩⟩
   ·
    have hs0 : s 36 = false := hf
    refine wpOp_step rfl (fun K hK => ?_)
    refine Kd.R_lit_step Kd.bool (w0 := w) w.heap.size 4 (by rfl) (N := 41) rfl (xs := []) (inner := []) (ok := fun _ => True) (okp := fun _ => False) ?hrun (Reps.none _ _) (fun _ h_ => h_.elim) trivial hbelow hsz (by simp) ?_
    case hrun => first | (go_simp; done) | (go_simp; rfl)
    intro v1 w1 hr hb hg hnew
    have h1 := h.empty4 hs0 (pw_below_grown (Below.refl W.heap.size W) none (Nat.le_refl _) hg (fun _ h_ => by cases h_)) hr hnew
    exact hK _ _ ⟨fun _ => hS _ h1.b1, .inl ⟨upd s 36 true, upd f 36 v1, h47, setL_upd fI nd1 (by decide) s true _, putL_upd fL nd2 nd3 (by decide) f _ _, h1⟩⟩
   ·
    have hs8 : s 44 = false := hf
    have hs0 : s 36 = true := dep 36 (by decide) (by kernel_rfl)
    have hrow := h.r4 hs0
    unfold cur at hrow
    rw [if_neg (by rw [hs8]; decide), if_neg (by rw [hs8]; decide)] at hrow
    refine wpOp_step rfl (fun K hK => ?_)
    refine Kd.R_append_rows_step Kd.bool (w0 := w) (Rr := Kd.K Kd.bool W) w.heap.size (by rfl) (.tmp 41) (.tmp 48) 25 4 (.bool false) 1 rfl Try.underlying25 PE.info4 rfl (by decide) (by decide) (f 36) [] (l0_4.take 40) A0_4 m4 c0_4 (fun _ => True) (fun _ => False) (ev_in nd2 (by decide) f (by omega)) ((ev_out (by decide) f).trans (by rw [eA]; rfl)) hrow (Kd.C_below HX4.out hbelow) (fun _ _ h_ => h_) (fun _ h_ => h_.elim) (fun _ _ => trivial) hbelow hsz (by have h_ := HM4.out; simp only [List.length_nil]; omega) ?_
    intro v1 w1 hr hb hg hat
    rw [List.nil_append] at hr
    have h1 := h.append4 hs0 hs8 hb hr hg hat
    exact hK _ _ ⟨fun _ => hS _ h1.b1, .inl ⟨upd s 44 true, upd f 44 v1, h47, setL_upd fI nd1 (by decide) s true _, putL_upd fL nd2 nd3 (by decide) f _ _, h1⟩⟩
   ·
    have hs0 : s 45 = false := hf
    have d8 : s 8 = true := dep 8 (by decide) (by kernel_rfl)
    have d17 : s 17 = true := dep 17 (by decide) (by kernel_rfl)
    have d26 : s 26 = true := dep 26 (by decide) (by kernel_rfl)
    have d35 : s 35 = true := dep 35 (by decide) (by kernel_rfl)
    have d44 : s 44 = true := dep 44 (by decide) (by kernel_rfl)
    obtain ⟨A0_, c0_, e8⟩ : ∃ A c, f 8 = .slice A ((l0_0.take 40)).length c := by have hq := h.r0 (h.o0 d8); unfold cur at hq; rw [if_pos d8, if_pos d8] at hq; exact Kd.R_slice hq
    obtain ⟨A1_, c1_, e17⟩ : ∃ A c, f 17 = .slice A ((l0_1.take 100)).length c := by have hq := h.r1 (h.o1 d17); unfold cur at hq; rw [if_pos d17, if_pos d17] at hq; exact Kd.R_slice hq
    obtain ⟨A2_, c2_, e26⟩ : ∃ A c, f 26 = .slice A ((l0_2.take 50)).length c := by have hq := h.r2 (h.o2 d26); unfold cur at hq; rw [if_pos d26, if_pos d26] at hq; exact Kd.R_slice hq
    obtain ⟨A3_, c3_, e35⟩ : ∃ A c, f 35 = .slice A ((l0_3.take 40)).length c := by have hq := h.r3 (h.o3 d35); unfold cur at hq; rw [if_pos d35, if_pos d35] at hq; exact Kd.R_slice hq
    obtain ⟨A4_, c4_, e44⟩ : ∃ A c, f 44 = .slice A ((l0_4.take 40)).length c := by have hq := h.r4 (h.o4 d44); unfold cur at hq; rw [if_pos d44, if_pos d44] at hq; exact Kd.R_slice hq
    have h1 := h.build d8 d17 d26 d35 d44
    have ev0 : ∀ (a0_ : Act), True := fun _ => trivial
    clear ev0
    refine wpOp_step rfl (fun K hK => ?_)
    refine event_step (by rfl) (v := .agg #[f 8, f 17, f 26, f 35, f 44]) (w1 := W) ?hrun ?_
    case hrun =>
     have v0 := (ev_in (a := a0) nd2 (show (13, 8) ∈ fL by decide) f (by omega)).trans e8
     have v1 := (ev_in (a := a0) nd2 (show (22, 17) ∈ fL by decide) f (by omega)).trans e17
     have v2 := (ev_in (a := a0) nd2 (show (31, 26) ∈ fL by decide) f (by omega)).trans e26
     have v3 := (ev_in (a := a0) nd2 (show (40, 35) ∈ fL by decide) f (by omega)).trans e35
     have v4 := (ev_in (a := a0) nd2 (show (49, 44) ∈ fL by decide) f (by omega)).trans e44
     generalize (putL a0 fL f).eval = E_ at v0 v1 v2 v3 v4 ⊢
     rw [e8, e17, e26, e35, e44]
     first | done | (go_simp; done) | (go_simp; rfl)
    exact hK _ _ ⟨fun _ => hS _ h1.b1, .inl ⟨upd s 45 true, upd f 45 (.agg #[f 8, f 17, f 26, f 35, f 44]), h47, setL_upd fI nd1 (by decide) s true _, putL_upd fL nd2 nd3 (by decide) f _ _, h1⟩⟩
   ·
    refine wpOp_step rfl (fun K hK => ?_)
    refine event_step (by rfl) (v := .pointer (some ⟨W.heap.size, 0, none⟩)) (w1 := W.alloc (.cells #[.slice none 0 0, .slice none 0 0, .slice none 0 0, .slice none 0 0, .slice none 0 0] 27)) ?hrun ?_
    case hrun => first | (go_simp; done) | (go_simp; rfl)
    have h1 := h.alloc (below_alloc (Below.refl _ W) (.cells #[.slice none 0 0, .slice none 0 0, .slice none 0 0, .slice none 0 0, .slice none 0 0] 27)) (blk_new W _) hsz (blk_lt h.b2)
    exact hK _ _ ⟨fun _ => hS _ h1.b1, .inl ⟨upd s 46 true, upd f 46 _, h47, setL_upd fI nd1 (by decide) s true _, putL_upd fL nd2 nd3 (by decide) f _ _, h1⟩⟩
   have d45 : s 45 = true := dep 45 (by decide) (by kernel_rfl)
   have d46 : s 46 = true := dep 46 (by decide) (by kernel_rfl)
   obtain ⟨e45, d8, d17, d26, d35, d44⟩ := h.bd d45
   obtain ⟨g3, e46, hb3, hge, hlt⟩ := h.al d46
   have v3 : (putL a0 fL f).eval (.tmp 3) = .pointer (some ⟨g3, 0, none⟩) := (ev_in nd2 (show (3, 46) ∈ fL by decide) f (by omega)).trans e46
   have v50 : (putL a0 fL f).eval (.tmp 50) = .agg #[f 8, f 17, f 26, f 35, f 44] := (ev_in nd2 (show (50, 45) ∈ fL by decide) f (by omega)).trans e45
   have s0_ : W.cell? ⟨g3, 0, none⟩ = some (.slice none 0 0) := (blk_cell hb3 0).trans rfl
   have s1_ : W.cell? ⟨g3, 1, none⟩ = some (.slice none 0 0) := (blk_cell hb3 1).trans rfl
   have s2_ : W.cell? ⟨g3, 2, none⟩ = some (.slice none 0 0) := (blk_cell hb3 2).trans rfl
   have s3_ : W.cell? ⟨g3, 3, none⟩ = some (.slice none 0 0) := (blk_cell hb3 3).trans rfl
   have s4_ : W.cell? ⟨g3, 4, none⟩ = some (.slice none 0 0) := (blk_cell hb3 4).trans rfl
   have y0_ := blk_frozen hb3 0
   have y1_ := blk_frozen hb3 1
   have y2_ := blk_frozen hb3 2
   have y3_ := blk_frozen hb3 3
   have y4_ := blk_frozen hb3 4
   obtain ⟨A0_, c0_, e8⟩ : ∃ A c, f 8 = .slice A ((l0_0.take 40)).length c := by have hq := h.r0 (h.o0 d8); unfold cur at hq; rw [if_pos d8, if_pos d8] at hq; exact Kd.R_slice hq
   obtain ⟨A1_, c1_, e17⟩ : ∃ A c, f 17 = .slice A ((l0_1.take 100)).length c := by have hq := h.r1 (h.o1 d17); unfold cur at hq; rw [if_pos d17, if_pos d17] at hq; exact Kd.R_slice hq
   obtain ⟨A2_, c2_, e26⟩ : ∃ A c, f 26 = .slice A ((l0_2.take 50)).length c := by have hq := h.r2 (h.o2 d26); unfold cur at hq; rw [if_pos d26, if_pos d26] at hq; exact Kd.R_slice hq
   obtain ⟨A3_, c3_, e35⟩ : ∃ A c, f 35 = .slice A ((l0_3.take 40)).length c := by have hq := h.r3 (h.o3 d35); unfold cur at hq; rw [if_pos d35, if_pos d35] at hq; exact Kd.R_slice hq
   obtain ⟨A4_, c4_, e44⟩ : ∃ A c, f 44 = .slice A ((l0_4.take 40)).length c := by have hq := h.r4 (h.o4 d44); unfold cur at hq; rw [if_pos d44, if_pos d44] at hq; exact Kd.R_slice hq
   refine wpOp_step rfl (fun K hK => ?_)
   have hrun : ∀ E_ : Operand → Value, E_ (.tmp 3) = .pointer (some ⟨g3, 0, none⟩) → E_ (.tmp 50) = .agg #[f 8, f 17, f 26, f 35, f 44] → (execOp E_ ({ dst := none, op := Op.store 27 (Operand.tmp 3) (Operand.tmp 50), type := 0, pos := "law.go:31", after := #[], guard := none })).run Try.prog W = .ok .skip (((((W.setCell ⟨g3, 0, none⟩ (f 8)).setCell ⟨g3, 1, none⟩ (f 17)).setCell ⟨g3, 2, none⟩ (f 26)).setCell ⟨g3, 3, none⟩ (f 35)).setCell ⟨g3, 4, none⟩ (f 44)) := by
    intro E_ v3 v50
    rw [e8, e17, e26, e35, e44] at v50 ⊢
    go_simp
   refine skip_step (by rfl) (hrun _ v3 v50) ?_
   have hne : g1 ≠ g3 := by have h_ := NE12.out; omega
   refine hK _ _ ⟨fun _ => hS _ (put5_far h.b1 hne), .inr ⟨(setL_upd fI nd1 (by decide) s true _).trans (setL_congr fI ?_ _), f, g3, rfl, e46, put5_at hb3, ?_⟩⟩
   ·
    intro p hp
    simp only [fI, List.mem_cons, List.not_mem_nil, or_false] at hp
    rcases hp with rfl | rfl | rfl | rfl | rfl | rfl | rfl | rfl | rfl | rfl | rfl | rfl | rfl
    all_goals first | rfl | exact d8 | exact d17 | exact d26 | exact d35 | exact d44 | exact d45 | exact d46 | exact h.o0 d8 | exact h.o1 d17 | exact h.o2 d26 | exact h.o3 d35 | exact h.o4 d44
   exact ⟨(R_put5 (fun h_ => h_) (by have hq := h.r0 (h.o0 d8); unfold cur at hq; rwa [if_pos d8, if_pos d8] at hq) hb3 (by decide)), (R_put5 (fun h_ => h_) (by have hq := h.r1 (h.o1 d17); unfold cur at hq; rwa [if_pos d17, if_pos d17] at hq) hb3 (by decide)), (R_put5 (fun h_ => h_) (by have hq := h.r2 (h.o2 d26); unfold cur at hq; rwa [if_pos d26, if_pos d26] at hq) hb3 (by decide)), (R_put5 (fun h_ => h_) (by have hq := h.r3 (h.o3 d35); unfold cur at hq; rwa [if_pos d35, if_pos d35] at hq) hb3 (by decide)), (R_put5 (fun h_ => h_) (by have hq := h.r4 (h.o4 d44); unfold cur at hq; rwa [if_pos d44, if_pos d44] at hq) hb3 (by decide)), (by have hq := h.d (h.o3 d35) (h.o4 d44); unfold cur at hq; rwa [if_pos d35, if_pos d44] at hq), put5_far h.b2 (by omega), hlt, hge, put5_below hbelow hge⟩
  exact (not_mem_of_eq hm (by rw [HL0.out]; kernel_rfl)).elim
 rintro ls a W (⟨s, f, h47, e1, e2, h⟩ | ⟨e1, f, g3, e2, h⟩) hr
 ·
  exfalso
  subst e1
  have q := all_done (md := .any) (by kernel_rfl) (by rw [setL_size, HL0.out]; rfl) hr 47
  rw [setL_in fI (by decide) (by decide) s l0 (by rw [HL0.out]; decide), h47] at q
  cases q
 subst e1 e2
 clear hr
 have eA := HA0.out
 clear HA0 HL0
 subst eA
 simp only [putL, fL, List.foldl_cons, List.foldl_nil, Act.put, List.setIfInBounds_toArray, List.set_cons_zero, List.set_cons_succ]
 obtain ⟨hp, hb3, hr0, hr1, hr2, hr3, hr4, hne, hb2, hlt, hge, hbl⟩ := h
 obtain ⟨A8, c8, e8⟩ := Kd.R_slice hr0
 rw [hp]
 rw [e8] at hb3 hr0
 obtain ⟨v1, hv1⟩ : ∃ x, x = f 17 := ⟨_, rfl⟩
 obtain ⟨v2, hv2⟩ : ∃ x, x = f 26 := ⟨_, rfl⟩
 obtain ⟨v3, hv3⟩ : ∃ x, x = f 35 := ⟨_, rfl⟩
 obtain ⟨v4, hv4⟩ : ∃ x, x = f 44 := ⟨_, rfl⟩
 rw [← hv1] at hb3 hr1
 rw [← hv2] at hb3 hr2
 rw [← hv3] at hb3 hr3 hne
 rw [← hv4] at hb3 hr4 hne
 clear hv1 hv2 hv3 hv4 e8 hp
 obtain ⟨xs, hxs⟩ : ∃ x, x = l0_0.take 40 := ⟨_, rfl⟩
 rw [← hxs] at hb3 hr0
 have HXS := Aside0.mk hxs
 clear hxs
 obtain ⟨n, hn⟩ : ∃ x, x = xs.length := ⟨_, rfl⟩
 rw [← hn] at hb3
 rw [← hn] at hr0
 have HK := Aside0.mk hr0
 have HJ := Aside0.mk hr1
 have HLp := Aside0.mk hr2
 have HS := Aside0.mk hr3
 have HU := Aside0.mk hr4
 have NE := Aside0.mk hne
 clear B1 B2 HB
 have B3 : Aside0 (W.heap[g3]? = some (.cells #[.slice A8 n c8, v1, v2, v3, v4] 27 (0, 0))) := ⟨hb3⟩
 have B2 : Aside0 (W.heap[g2]? = some (.cells #[.slice none 0 0, .slice none 0 0, .slice none 0 0, .slice none 0 0, .slice none 0 0] 27 (0, 0))) := ⟨hb2⟩
 have GE := Aside0.mk hge
 have NE23 := Aside0.mk (show g2 ≠ g3 by omega)
 have HBL := Aside0.mk hbl
 clear hr0 hr1 hr2 hr3 hr4 hne hb3 hb2 hlt hge hbl NE12
 have hn40 : n ≤ 40 := by rw [hn, HXS.out, List.length_take]; omega
 go_upto_region 2 with (fail)
 go_wp2
 go_loopw [4] (fun i wr => ∃ k : Nat, k ≤ n ∧ i = .int .i64 k ∧ Kd.R k56 56 wr w.heap.size (fun _ => True) (.slice A8 n c8) (cutTo k xs) ∧ Aside0 (Kd.R k54 54 wr w.heap.size (fun _ => True) v1 (l0_1.take 100)) ∧ Aside0 (Kd.R k67 67 wr w.heap.size (fun _ => True) v2 (l0_2.take 50)) ∧ Aside0 (Kd.R Kd.bool 4 wr w.heap.size (fun _ => True) v3 (l0_3.take 40)) ∧ Aside0 (Kd.R Kd.bool 4 wr w.heap.size (fun _ => True) v4 (l0_4.take 40)) ∧ Aside0 (wr.heap[g2]? = some (.cells #[.slice none 0 0, .slice none 0 0, .slice none 0 0, .slice none 0 0, .slice none 0 0] 27 (0, 0))) ∧ Aside0 (wr.heap[g3]? = some (.cells #[.slice A8 n c8, v1, v2, v3, v4] 27 (0, 0))) ∧ Aside0 (Below w.heap.size w wr)) (fun i _ => n - (intOf i).toNat)
 case atStart => exact ⟨0, Nat.zero_le _, rfl, by rw [cutTo_zero]; exact HK.out, HJ, HLp, HS, HU, B2, B3, HBL⟩
 clear HK HJ HLp HS HU B2 B3 HBL
 obtain ⟨k, hk, rfl, hO, HJ, HLp, HS, HU, B2, B3, HBL⟩ := hrel
 have HO := Aside0.mk hO
 clear hO
 have h3 : wr.cell? ⟨g3, 0, none⟩ = some (.slice A8 n c8) := (blk_cell B3.out 0).trans rfl
 by_cases hlt : k < n
 rotate_left
 ·
  have hkn : n = k := by omega
  subst hkn
  have cl : decide ((n : Int) < (n : Int)) = false := decide_eq_false (by omega)
  have HO2 : Kd.R k56 56 wr w.heap.size (fun _ => True) (.slice A8 n c8) ((l0_0.take 40).map cutK) := by rw [← HXS.out, ← cutTo_all, ← hn]; exact HO.out
  have HK := Aside0.mk HO2
  clear HO2 hn
  obtain ⟨A1_, n1_, a1_, rfl⟩ : ∃ A n c, v1 = .slice A n c := by obtain ⟨A, c, e⟩ := Kd.R_slice HJ.out; exact ⟨A, _, c, e⟩
  obtain ⟨A2_, n2_, a2_, rfl⟩ : ∃ A n c, v2 = .slice A n c := by obtain ⟨A, c, e⟩ := Kd.R_slice HLp.out; exact ⟨A, _, c, e⟩
  obtain ⟨A3_, n3_, a3_, rfl⟩ : ∃ A n c, v3 = .slice A n c := by obtain ⟨A, c, e⟩ := Kd.R_slice HS.out; exact ⟨A, _, c, e⟩
  obtain ⟨A4_, n4_, a4_, rfl⟩ : ∃ A n c, v4 = .slice A n c := by obtain ⟨A, c, e⟩ := Kd.R_slice HU.out; exact ⟨A, _, c, e⟩
  have c0_ : wr.cell? ⟨g3, 0, none⟩ = some (.slice A8 n c8) := (blk_cell B3.out 0).trans rfl
  have c1_ : wr.cell? ⟨g3, 1, none⟩ = some (.slice A1_ n1_ a1_) := (blk_cell B3.out 1).trans rfl
  have c2_ : wr.cell? ⟨g3, 2, none⟩ = some (.slice A2_ n2_ a2_) := (blk_cell B3.out 2).trans rfl
  have c3_ : wr.cell? ⟨g3, 3, none⟩ = some (.slice A3_ n3_ a3_) := (blk_cell B3.out 3).trans rfl
  have c4_ : wr.cell? ⟨g3, 4, none⟩ = some (.slice A4_ n4_ a4_) := (blk_cell B3.out 4).trans rfl
  have z0_ : wr.cell? ⟨g2, 0, none⟩ = some (.slice none 0 0) := (blk_cell B2.out 0).trans rfl
  have z1_ : wr.cell? ⟨g2, 1, none⟩ = some (.slice none 0 0) := (blk_cell B2.out 1).trans rfl
  have z2_ : wr.cell? ⟨g2, 2, none⟩ = some (.slice none 0 0) := (blk_cell B2.out 2).trans rfl
  have z3_ : wr.cell? ⟨g2, 3, none⟩ = some (.slice none 0 0) := (blk_cell B2.out 3).trans rfl
  have z4_ : wr.cell? ⟨g2, 4, none⟩ = some (.slice none 0 0) := (blk_cell B2.out 4).trans rfl
  have y0_ := blk_frozen B2.out 0
  have y1_ := blk_frozen B2.out 1
  have y2_ := blk_frozen B2.out 2
  have y3_ := blk_frozen B2.out 3
  have y4_ := blk_frozen B2.out 4
  clear HO
  go_wp2
  refine bodyPost_ret (results_single rfl (.cell g2 27 _ (0, 0) _ rfl (put5_at B2.out) Try.underlying27 rfl (by kernel_rfl) .nil)) rfl ?_
  exact ⟨_, _, _, _, _, rfl, put5_R HK.out B2.out (by decide), put5_R HJ.out B2.out (by decide), put5_R HLp.out B2.out (by decide), Kd.R_flat (fun h_ => h_) (put5_R HS.out B2.out (by decide)) (fun k hk _ e => NE.out k hk e.symm), Kd.R_flat (fun h_ => h_) (put5_R HU.out B2.out (by decide)) (fun k hk _ e => NE.out k e.symm hk), put5_below HBL.out HG2.out⟩
 have cl : decide ((k : Int) < (n : Int)) = true := decide_eq_true (by omega)
 have ck0 : decide (0 ≤ (k : Int)) = true := decide_eq_true (by omega)
 obtain ⟨g, cap, hv, _, hg0, cells, hcells⟩ := Kd.R_form HO.out (by rw [cutTo_len]; omega)
 rw [cutTo_len, ← hn] at hv
 injection hv with e1 _ e3
 subst e1
 subst e3
 have hlx : k < xs.length := by omega
 have hat := kind_at HO.out k hlt
 have hst := kind_put HO.out k hlt (xs[k].f2.extract 0 (min xs[k].f2.size 60))
 rw [cutTo_rd k xs hlx] at hat hst
 have hst' : (cutTo k xs).set k ⟨xs[k].f0, xs[k].f1, xs[k].f2.extract 0 (min xs[k].f2.size 60)⟩ = cutTo (k + 1) xs := cutTo_set k xs hlx
 rw [hst'] at hst
 clear hst'
 have hct := cutS xs[k].f2 (min xs[k].f2.size 60) (by omega)
 obtain ⟨nm, hnm⟩ : ∃ x, x = xs[k].f2 := ⟨_, rfl⟩
 rw [← hnm] at hat hst hct
 obtain ⟨m, hm⟩ : ∃ x, x = min nm.size 60 := ⟨_, rfl⟩
 rw [← hm] at hst hct
 have hmin : (if (60 : Int) < (nm.size : Int) then (60 : Int) else (nm.size : Int)) = (m : Int) := by split <;> omega
 obtain ⟨cn, hcn⟩ : ∃ x, x = nm.extract 0 m := ⟨_, rfl⟩
 rw [← hcn] at hst hct
 have HAT := Aside0.mk hat
 clear hat hcells hnm hm hcn
 go_upto_region 5 with (fail)
 refine region_Z 20 (fun w' => w'.cell? ⟨g3, 0, none⟩ = some (.slice (some ⟨g, 0, none⟩) n c8) ∧ w'.cell? ⟨g, k * 3 + 2, none⟩ = some (.string nm)) (by kernel_rfl) ?_
 refine zt 0 (⟨(blk_cell B3.out 0).trans rfl, HAT.out⟩) ?_; refine zt 1 (⟨(blk_cell B3.out 0).trans rfl, HAT.out⟩) ?_; refine zt 2 (⟨(blk_cell B3.out 0).trans rfl, HAT.out⟩) ?_; refine zt 3 (⟨(blk_cell B3.out 0).trans rfl, HAT.out⟩) ?_; refine zt 4 (⟨(blk_cell B3.out 0).trans rfl, HAT.out⟩) ?_; refine zt 5 (⟨(blk_cell B3.out 0).trans rfl, HAT.out⟩) ?_; refine zt 6 (⟨(blk_cell B3.out 0).trans rfl, HAT.out⟩) ?_; refine zt 7 (⟨(blk_cell B3.out 0).trans rfl, HAT.out⟩) ?_; refine zt 8 (⟨(blk_cell B3.out 0).trans rfl, HAT.out⟩) ?_; refine zt 9 (⟨(blk_cell B3.out 0).trans rfl, HAT.out⟩) ?_; refine zt 10 (⟨(blk_cell B3.out 0).trans rfl, HAT.out⟩) ?_; refine zt 11 (⟨(blk_cell B3.out 0).trans rfl, HAT.out⟩) ?_; refine zt 12 (⟨(blk_cell B3.out 0).trans rfl, HAT.out⟩) ?_; refine zt 13 (⟨(blk_cell B3.out 0).trans rfl, HAT.out⟩) ?_; refine zt 14 (⟨(blk_cell B3.out 0).trans rfl, HAT.out⟩) ?_; refine zt 15 (⟨(blk_cell B3.out 0).trans rfl, HAT.out⟩) ?_; refine zt 16 (⟨(blk_cell B3.out 0).trans rfl, HAT.out⟩) ?_; refine zt 17 (⟨(blk_cell B3.out 0).trans rfl, HAT.out⟩) ?_
 (refine wpZ_one (i := 18) (by kernel_rfl) rfl (fun K_ hK_ => ?_); go_simp; refine hK_.out _ _ (fun _ => ⟨(blk_cell B3.out 0).trans rfl, HAT.out⟩) ?_; clear hK_ K_; (try simp only [Act.put, List.getElem_toArray, List.getElem_cons_succ, List.getElem_cons_zero, List.setIfInBounds_toArray, List.set_cons_zero, List.set_cons_succ]))
 (refine wpZ_one (i := 19) (by kernel_rfl) rfl (fun K_ hK_ => ?_); go_simp; refine hK_.out _ _ (fun _ => ⟨(blk_cell B3.out 0).trans rfl, HAT.out⟩) ?_; clear hK_ K_; (try simp only [Act.put, List.getElem_toArray, List.getElem_cons_succ, List.getElem_cons_zero, List.setIfInBounds_toArray, List.set_cons_zero, List.set_cons_succ]))
 obtain ⟨HS1, HS2, ⟨u0, hz1⟩, hz2⟩ := hst
 have HSD := Aside0.mk (And.intro HS1 HS2)
 clear HS1 HS2
 (refine wpZ_one (i := 20) (by kernel_rfl) rfl (fun K_ hK_ => ?_); go_simp; refine hK_.out _ _ (fun h => absurd rfl h) ?_; clear hK_ K_; (try simp only [Act.put, List.getElem_toArray, List.getElem_cons_succ, List.getElem_cons_zero, List.setIfInBounds_toArray, List.set_cons_zero, List.set_cons_succ]))
 refine wpZ_done (by kernel_rfl) ?_ _
 clear hz1 hz2
 obtain ⟨HS1, HS2⟩ := HSD.out
 clear HSD
 have hn2 : g2 ≠ g := fun e => Kd.R_ne HO.out B2.out (by decide) (by rw [e]; simp [Value.ownBlock])
 have hn3 : g3 ≠ g := fun e => Kd.R_ne HO.out B3.out (by decide) (by rw [e]; simp [Value.ownBlock])
 have hge := Kd.R_base HO.out g (by simp [Value.ownBlock])
 obtain ⟨w8, hw8⟩ : ∃ x, x = wr.setCell ⟨g, k * 3 + 2, none⟩ (.string cn) := ⟨_, rfl⟩
 have n2_ := Aside0.mk (blk_far (p := ⟨g, k * 3 + 2, none⟩) B2.out hn2 (.string cn))
 have n3_ := Aside0.mk (blk_far (p := ⟨g, k * 3 + 2, none⟩) B3.out hn3 (.string cn))
 have n4_ := Aside0.mk (Kd.R_over' HJ.out (Kd.R_typed HO.out) (by decide) HS2)
 have n5_ := Aside0.mk (Kd.R_over' HLp.out (Kd.R_typed HO.out) (by decide) HS2)
 have n6_ := Aside0.mk (Kd.R_over' HS.out (Kd.R_typed HO.out) (by decide) HS2)
 have n7_ := Aside0.mk (Kd.R_over' HU.out (Kd.R_typed HO.out) (by decide) HS2)
 have n8_ := Aside0.mk (show Below w.heap.size w (wr.setCell ⟨g, k * 3 + 2, none⟩ (.string cn)) from below_set HBL.out hge)
 rw [← hw8] at n2_ n3_ n4_ n5_ n6_ n7_ n8_ HS1 ⊢
 clear hw8 B2 B3 HJ HLp HS HU HBL HO HS2 hn2 hn3 HAT
 go_wp2
 go_roundw
 case rel => exact ⟨k + 1, by omega, by go_num, Kd.R_drew HS1, ⟨Kd.R_drew n4_.out⟩, ⟨Kd.R_drew n5_.out⟩, ⟨Kd.R_drew n6_.out⟩, ⟨Kd.R_drew n7_.out⟩, ⟨blk_drew n2_.out⟩, ⟨blk_drew n3_.out⟩, ⟨by first | exact below_drew1 n8_.out | exact below_drew n8_.out⟩⟩
 case measure => simp [intOf]; omega
end Go.Proofs.Ythobnoknbdljgaa.Hand
end
section
namespace Go.Proofs.Ythobnoknbdljgaa.Stub2
open Go.RowKit Go.Proofs.YthobnoknbdljgaaW.PrintWords PB0 Hand
def longcaselaw06_few.f (l0 : List S56) (l1 : List S54) (l2 : List S67) (l3 l4 : List Bool) : Option (List S56 × List S54 × List S67 × List Bool × List Bool) := some ((l0.take 40).map cutK, l1.take 100, l2.take 50, l3.take 40, l4.take 40)
theorem longcaselaw06_few.calls (A0_0 : Option Addr) (c0_0 : Nat) (l0_0 : List S56) (A0_1 : Option Addr) (c0_1 : Nat) (l0_1 : List S54) (A0_2 : Option Addr) (c0_2 : Nat) (l0_2 : List S67) (A0_3 : Option Addr) (c0_3 : Nat) (l0_3 : List Bool) (A0_4 : Option Addr) (c0_4 : Nat) (l0_4 : List Bool) (t0 : List S56) (t1 : List S54) (t2 : List S67) (t3 t4 : List Bool) (w : World) (hr0_0 : Kd.C k56 w A0_0 l0_0.length l0_0) (hc0_0 : l0_0.length ≤ c0_0) (hr0_1 : Kd.C k54 w A0_1 l0_1.length l0_1) (hc0_1 : l0_1.length ≤ c0_1) (hr0_2 : Kd.C k67 w A0_2 l0_2.length l0_2) (hc0_2 : l0_2.length ≤ c0_2) (hr0_3 : Kd.C Kd.bool w A0_3 l0_3.length l0_3) (hc0_3 : l0_3.length ≤ c0_3) (hr0_4 : Kd.C Kd.bool w A0_4 l0_4.length l0_4) (hc0_4 : l0_4.length ≤ c0_4) (h : longcaselaw06_few.f l0_0 l0_1 l0_2 l0_3 l0_4 = some (t0, t1, t2, t3, t4)) :
  Calls Try.prog 12 #[.agg #[.slice A0_0 l0_0.length c0_0, .slice A0_1 l0_1.length c0_1, .slice A0_2 l0_2.length c0_2, .slice A0_3 l0_3.length c0_3, .slice A0_4 l0_4.length c0_4]] w fun e w' => ∃ v0_ v1_ v2_ v3_ v4_ : Value, e = .returned (.agg #[v0_, v1_, v2_, v3_, v4_]) ∧ Kd.R k56 56 w' w.heap.size (fun _ => True) v0_ t0 ∧ Kd.R k54 54 w' w.heap.size (fun _ => True) v1_ t1 ∧ Kd.R k67 67 w' w.heap.size (fun _ => True) v2_ t2 ∧ Kd.R Kd.bool 4 w' w.heap.size (fun k_ => some k_ ≠ (v4_ : Value).ownBlock) v3_ t3 ∧ Kd.R Kd.bool 4 w' w.heap.size (fun k_ => some k_ ≠ (v3_ : Value).ownBlock) v4_ t4 ∧ Below w.heap.size w w' := by
 unfold longcaselaw06_few.f at h
 simp only [Option.some.injEq, Prod.mk.injEq] at h
 obtain ⟨rfl, rfl, rfl, rfl, rfl⟩ := h
 exact few_walk A0_0 c0_0 l0_0 A0_1 c0_1 l0_1 A0_2 c0_2 l0_2 A0_3 c0_3 l0_3 A0_4 c0_4 l0_4 w hr0_0 hc0_0 hr0_1 hc0_1 hr0_2 hc0_2 hr0_3 hc0_3 hr0_4 hc0_4
end Go.Proofs.Ythobnoknbdljgaa.Stub2
end
section
namespace Go.Proofs.Ythobnoknbdljgaa.PR
open Go.Proofs.Ythobnoknbdljgaa.PB0 Sq
open Go.RowKit Go.Proofs.YthobnoknbdljgaaW.PrintWords Go.Proofs.YthobnoknbdljgaaW.PrintLast Go.Proofs.YthobnoknbdljgaaW.PrintMore
attribute [local go_sem] max2_int min2_int max_two min_two
set_option linter.unusedVariables false
set_option linter.unusedSimpArgs false
theorem info3 : (Try.prog.info? 3).map (fun i => (i.zero, i.size, i.bytes)) = some (some (.int .i64 0), 1, 8) := by kernel_rfl
end Go.Proofs.Ythobnoknbdljgaa.PR
end
section
namespace Go.Proofs.Ythobnoknbdljgaa.PR
open Go.Proofs.Ythobnoknbdljgaa.PB0 Sq
open Go.RowKit Go.Proofs.YthobnoknbdljgaaW.PrintWords Go.Proofs.YthobnoknbdljgaaW.PrintLast Go.Proofs.YthobnoknbdljgaaW.PrintMore
attribute [local go_sem] max2_int min2_int max_two min_two
set_option linter.unusedVariables false
set_option linter.unusedSimpArgs false
mutual
def longcaseref06_Names.l0 : Nat → List (S56) → List Int → List Int → Int → Option (List Int × List Int)
 | 0, _, _, _, _ => none
 | k + 1, x0, x4, x5, x6 => if x6 < (x0.length : Int) then (longcaseref06_Names.l1 k x0 x4 x5 x6 (-1) 0) else (some (x4, x5))
def longcaseref06_Names.l1 : Nat → List (S56) → List Int → List Int → Int → Int → Int → Option (List Int × List Int)
 | 0, _, _, _, _, _, _ => none
 | k + 1, x0, x4, x5, x6, x7, x8 => if x8 < x6 then (longcaseref06_Names.j2 k x0 x4 x5 x6 x7 x8 (decide (x7 < 0))) else (longcaseref06_Names.j2 k x0 x4 x5 x6 x7 x8 false)
def longcaseref06_Names.j2 : Nat → List (S56) → List Int → List Int → Int → Int → Int → Bool → Option (List Int × List Int)
 | 0, _, _, _, _, _, _, _ => none
 | k + 1, x0, x4, x5, x6, x7, x8, x23 => if x23 = true then (if 0 ≤ x8 then (if x8 < (x0.length : Int) then (if 0 ≤ x6 then (if x6 < (x0.length : Int) then (if ((rd_T56 x0 x8).f2).toList = ((rd_T56 x0 x6).f2).toList then (if x8 < (x5.length : Int) then (longcaseref06_Names.l1 k x0 x4 x5 x6 (rd x5 x8) (wrap64 (x8 + 1))) else (none)) else (longcaseref06_Names.l1 k x0 x4 x5 x6 x7 (wrap64 (x8 + 1)))) else (none)) else (none)) else (none)) else (none)) else (if x7 < 0 then (if 0 ≤ x6 then (if x6 < (x0.length : Int) then (if x4.length + ((rd_T56 x0 x6).f2).size < 140737488355328 then ((some (x4 ++ bytesOf ((rd_T56 x0 x6).f2) : List Int)).bind fun y111 => (if y111.length < 140737488355328 then (if x5.length < 17592186044416 then (longcaseref06_Names.l0 k x0 (y111 ++ [0]) (x5 ++ [(x4.length : Int)]) (wrap64 (x6 + 1))) else (none)) else (none))) else (none)) else (none)) else (none)) else (if x5.length < 17592186044416 then (longcaseref06_Names.l0 k x0 x4 (x5 ++ [x7]) (wrap64 (x6 + 1))) else (none)))
end
def longcaseref06_Names.f (k : Nat) (l0 : List (S56)) : Option (List Int × List Int) := longcaseref06_Names.l0 k l0 (([] : List Int)) (([] : List Int)) 0
theorem longcaseref06_Names.mono_l : ∀ k, (∀ y0 y1 y2 y3, LeO (longcaseref06_Names.l0 k y0 y1 y2 y3) (longcaseref06_Names.l0 (k + 1) y0 y1 y2 y3)) ∧ (∀ y0 y1 y2 y3 y4 y5, LeO (longcaseref06_Names.l1 k y0 y1 y2 y3 y4 y5) (longcaseref06_Names.l1 (k + 1) y0 y1 y2 y3 y4 y5)) ∧ (∀ y0 y1 y2 y3 y4 y5 y6, LeO (longcaseref06_Names.j2 k y0 y1 y2 y3 y4 y5 y6) (longcaseref06_Names.j2 (k + 1) y0 y1 y2 y3 y4 y5 y6))
 | 0 => ⟨fun _ _ _ _ r h => by simp [longcaseref06_Names.l0] at h, fun _ _ _ _ _ _ r h => by simp [longcaseref06_Names.l1] at h, fun _ _ _ _ _ _ _ r h => by simp [longcaseref06_Names.j2] at h⟩
 | k + 1 => by
  obtain ⟨ih0, ih1, ih2⟩ := longcaseref06_Names.mono_l k
  refine ⟨?_, ?_, ?_⟩
  ·
   intro y0 y1 y2 y3
   unfold longcaseref06_Names.l0
   repeat' first
   | (with_reducible exact ih0 _ _ _ _)
   | (with_reducible exact ih1 _ _ _ _ _ _)
   | (with_reducible exact ih2 _ _ _ _ _ _ _)
   | (with_reducible exact LeO.refl _)
   | (with_reducible exact LeO.none _)
   | (with_reducible refine LeO.ite ?_ ?_)
   | (with_reducible refine LeO.bind ?_ (fun _ => ?_))
   | exact ih0 _ _ _ _
   | exact ih1 _ _ _ _ _ _
   | exact ih2 _ _ _ _ _ _ _
   | exact LeO.none _
   | refine LeO.ite ?_ ?_
   | refine LeO.bind ?_ (fun _ => ?_)
  ·
   intro y0 y1 y2 y3 y4 y5
   unfold longcaseref06_Names.l1
   repeat' first
   | (with_reducible exact ih0 _ _ _ _)
   | (with_reducible exact ih1 _ _ _ _ _ _)
   | (with_reducible exact ih2 _ _ _ _ _ _ _)
   | (with_reducible exact LeO.refl _)
   | (with_reducible exact LeO.none _)
   | (with_reducible refine LeO.ite ?_ ?_)
   | (with_reducible refine LeO.bind ?_ (fun _ => ?_))
   | exact ih0 _ _ _ _
   | exact ih1 _ _ _ _ _ _
   | exact ih2 _ _ _ _ _ _ _
   | exact LeO.none _
   | refine LeO.ite ?_ ?_
   | refine LeO.bind ?_ (fun _ => ?_)
  ·
   intro y0 y1 y2 y3 y4 y5 y6
   unfold longcaseref06_Names.j2
   repeat' first
   | (with_reducible exact ih0 _ _ _ _)
   | (with_reducible exact ih1 _ _ _ _ _ _)
   | (with_reducible exact ih2 _ _ _ _ _ _ _)
   | (with_reducible exact LeO.refl _)
   | (with_reducible exact LeO.none _)
   | (with_reducible refine LeO.ite ?_ ?_)
   | (with_reducible refine LeO.bind ?_ (fun _ => ?_))
   | exact ih0 _ _ _ _
   | exact ih1 _ _ _ _ _ _
   | exact ih2 _ _ _ _ _ _ _
   | exact LeO.none _
   | refine LeO.ite ?_ ?_
   | refine LeO.bind ?_ (fun _ => ?_)
theorem longcaseref06_Names.mono : ∀ a0 k, LeO (longcaseref06_Names.f k a0) (longcaseref06_Names.f (k + 1) a0) := by
 intro a0 k
 obtain ⟨ih0, ih1, ih2⟩ := longcaseref06_Names.mono_l k
 unfold longcaseref06_Names.f
 repeat' first
   | (with_reducible exact ih0 _ _ _ _)
   | (with_reducible exact ih1 _ _ _ _ _ _)
   | (with_reducible exact ih2 _ _ _ _ _ _ _)
   | (with_reducible exact LeO.refl _)
   | (with_reducible exact LeO.none _)
   | (with_reducible refine LeO.ite ?_ ?_)
   | (with_reducible refine LeO.bind ?_ (fun _ => ?_))
   | exact ih0 _ _ _ _
   | exact ih1 _ _ _ _ _ _
   | exact ih2 _ _ _ _ _ _ _
   | exact LeO.none _
   | refine LeO.ite ?_ ?_
   | refine LeO.bind ?_ (fun _ => ?_)
set_option maxHeartbeats 8000000 in
set_option maxRecDepth 100000 in
theorem longcaseref06_Names.calls (k : Nat) (A0 : Option Addr) (c0 : Nat) (l0 : List (S56)) (r1 : List Int) (r2 : List Int) (w : World) (hr0 : Kd.C k56 w A0 l0.length l0) (hc0 : l0.length ≤ c0) (h : longcaseref06_Names.f k l0 = some (r1, r2)) :
  Calls Try.prog 24 #[.slice A0 l0.length c0] w fun e w' => ∃ v0_ v1_ : Value, e = .returned (.tuple #[v0_, v1_]) ∧ Kd.R (Kd.int .u8) 5 w' w.heap.size (fun _ => True) v0_ r1 ∧ Kd.R (Kd.int .i64) 3 w' w.heap.size (fun _ => True) v1_ r2 ∧ Below w.heap.size w w' := by
 have HR0 := Aside0.mk hr0
 have HC0 := Aside0.mk hc0
 clear hr0 hc0
 have HB := Aside0.mk (Below.refl w.heap.size w)
 have H : (longcaseref06_Names.l0 k l0 (([] : List Int)) (([] : List Int)) 0) = some (r1, r2) := h
 clear h
 obtain ⟨y101, hy101⟩ : ∃ y_ : List Int, y_ = (([] : List Int)) := ⟨_, rfl⟩
 replace H : (longcaseref06_Names.l0 k l0 y101 (([] : List Int)) 0) = some (r1, r2) := by first | (rw [hy101]; with_reducible exact H) | (have H2_ := (Option.bind_some _ _).symm.trans H; rw [hy101]; with_reducible exact H2_) | (have H2_ := (Option.bind_some _ _).symm.trans H; with_reducible exact H2_) | with_reducible exact H | (rw [hy101]; exact H) | exact H
 have Ny101 := Aside0.mk hy101
 clear hy101
 obtain ⟨y104, hy104⟩ : ∃ y_ : List Int, y_ = (([] : List Int)) := ⟨_, rfl⟩
 replace H : (longcaseref06_Names.l0 k l0 y101 y104 0) = some (r1, r2) := by first | (rw [hy104]; with_reducible exact H) | (have H2_ := (Option.bind_some _ _).symm.trans H; rw [hy104]; with_reducible exact H2_) | (have H2_ := (Option.bind_some _ _).symm.trans H; with_reducible exact H2_) | with_reducible exact H | (rw [hy104]; exact H) | exact H
 have Ny104 := Aside0.mk hy104
 clear hy104
 have H' := Aside0.mk H
 clear H
 go_enter Try.func24, Try.ntmps24
 go_wp2_with (first | ((with_reducible refine gate_dst (N := 9) rfl ?_); refine Kd.R_lit (Kd.int .u8) _ 5 ?hg (N := 9) ?hd (xs := ([] : List Int)) (inner := []) (ok := fun _ => True) (okp := fun _ => True) ?hr ?hp (fun _ hk => hk) trivial (Below.refl _ _) (Nat.le_refl _) (by simp) ?_; (case hd => rfl); (case hg => rfl); (case hr => first | (go_simp; done) | (go_simp; rfl)); (case hp => exact (Reps.none _ _)); intro v102 w2 ho3 hb hg_ hnew_; clear hg_ hnew_; (first | rw [← Ny101.out] at ho3 | (simp only [Int.reduceToNat] at ho3; rw [← Ny101.out] at ho3)); have HO103 := Aside0.mk (Kd.R_lower ho3 (below_size (Sq.kl HB))); replace HB := Aside0.mk (below_step (Sq.kl HB) hb); clear hb ho3) | ((with_reducible refine gate_dst (N := 10) rfl ?_); refine Kd.R_lit (Kd.int .i64) _ 3 ?hg (N := 10) ?hd (xs := ([] : List Int)) (inner := []) (ok := fun _ => True) (okp := fun _ => True) ?hr ?hp (fun _ hk => hk) trivial (Below.refl _ _) (Nat.le_refl _) (by simp) ?_; (case hd => rfl); (case hg => rfl); (case hr => first | (go_simp; done) | (go_simp; rfl)); (case hp => exact (Reps.none _ _)); intro v105 w4 ho5 hb hg_ hnew_; clear hg_ hnew_; (first | rw [← Ny104.out] at ho5 | (simp only [Int.reduceToNat] at ho5; rw [← Ny104.out] at ho5)); replace HO103 := krb HO103 hb; have HO106 := Aside0.mk (Kd.R_lower ho5 (below_size (Sq.kl HB))); replace HB := Aside0.mk (below_step (Sq.kl HB) hb); clear hb ho5))
 repeat (go_quiet (first | ((with_reducible refine gate_dst (N := 9) rfl ?_); refine Kd.R_lit (Kd.int .u8) _ 5 ?hg (N := 9) ?hd (xs := ([] : List Int)) (inner := []) (ok := fun _ => True) (okp := fun _ => True) ?hr ?hp (fun _ hk => hk) trivial (Below.refl _ _) (Nat.le_refl _) (by simp) ?_; (case hd => rfl); (case hg => rfl); (case hr => first | (go_simp; done) | (go_simp; rfl)); (case hp => exact (Reps.none _ _)); intro v102 w2 ho3 hb hg_ hnew_; clear hg_ hnew_; (first | rw [← Ny101.out] at ho3 | (simp only [Int.reduceToNat] at ho3; rw [← Ny101.out] at ho3)); have HO103 := Aside0.mk (Kd.R_lower ho3 (below_size (Sq.kl HB))); replace HB := Aside0.mk (below_step (Sq.kl HB) hb); clear hb ho3) | ((with_reducible refine gate_dst (N := 10) rfl ?_); refine Kd.R_lit (Kd.int .i64) _ 3 ?hg (N := 10) ?hd (xs := ([] : List Int)) (inner := []) (ok := fun _ => True) (okp := fun _ => True) ?hr ?hp (fun _ hk => hk) trivial (Below.refl _ _) (Nat.le_refl _) (by simp) ?_; (case hd => rfl); (case hg => rfl); (case hr => first | (go_simp; done) | (go_simp; rfl)); (case hp => exact (Reps.none _ _)); intro v105 w4 ho5 hb hg_ hnew_; clear hg_ hnew_; (first | rw [← Ny104.out] at ho5 | (simp only [Int.reduceToNat] at ho5; rw [← Ny104.out] at ho5)); replace HO103 := krb HO103 hb; have HO106 := Aside0.mk (Kd.R_lower ho5 (below_size (Sq.kl HB))); replace HB := Aside0.mk (below_step (Sq.kl HB) hb); clear hb ho5)); try go_wp2_with (first | ((with_reducible refine gate_dst (N := 9) rfl ?_); refine Kd.R_lit (Kd.int .u8) _ 5 ?hg (N := 9) ?hd (xs := ([] : List Int)) (inner := []) (ok := fun _ => True) (okp := fun _ => True) ?hr ?hp (fun _ hk => hk) trivial (Below.refl _ _) (Nat.le_refl _) (by simp) ?_; (case hd => rfl); (case hg => rfl); (case hr => first | (go_simp; done) | (go_simp; rfl)); (case hp => exact (Reps.none _ _)); intro v102 w2 ho3 hb hg_ hnew_; clear hg_ hnew_; (first | rw [← Ny101.out] at ho3 | (simp only [Int.reduceToNat] at ho3; rw [← Ny101.out] at ho3)); have HO103 := Aside0.mk (Kd.R_lower ho3 (below_size (Sq.kl HB))); replace HB := Aside0.mk (below_step (Sq.kl HB) hb); clear hb ho3) | ((with_reducible refine gate_dst (N := 10) rfl ?_); refine Kd.R_lit (Kd.int .i64) _ 3 ?hg (N := 10) ?hd (xs := ([] : List Int)) (inner := []) (ok := fun _ => True) (okp := fun _ => True) ?hr ?hp (fun _ hk => hk) trivial (Below.refl _ _) (Nat.le_refl _) (by simp) ?_; (case hd => rfl); (case hg => rfl); (case hr => first | (go_simp; done) | (go_simp; rfl)); (case hp => exact (Reps.none _ _)); intro v105 w4 ho5 hb hg_ hnew_; clear hg_ hnew_; (first | rw [← Ny104.out] at ho5 | (simp only [Int.reduceToNat] at ho5; rw [← Ny104.out] at ho5)); replace HO103 := krb HO103 hb; have HO106 := Aside0.mk (Kd.R_lower ho5 (below_size (Sq.kl HB))); replace HB := Aside0.mk (below_step (Sq.kl HB) hb); clear hb ho5)))
 go_loopg [4, 5, 6] k (fun kq v4 v5 v6 w' => ∃ (x4_1 : List Int) (x5_1 : List Int) (x6_1 : Int), v6 = .int .i64 x6_1 ∧ Aside0 (longcaseref06_Names.l0 kq l0 x4_1 x5_1 x6_1 = some (r1, r2)) ∧ Aside0 (kq ≤ k) ∧ Aside0 (Kd.R (Kd.int .u8) 5 w' w.heap.size (fun _ => True) v4 x4_1) ∧ Aside0 (Kd.R (Kd.int .i64) 3 w' w.heap.size (fun _ => True) v5 x5_1) ∧ Aside0 (Below w.heap.size w w'))
 case atStart => exact ⟨(y101), (y104), (0), (by first | rfl | (simp; done) | (simp [*]; done)), H', ⟨Nat.le_refl _⟩, ⟨by (with_reducible repeat (first | apply Kd.R_alloc | apply Kd.R_drewN | apply Kd.R_drew)); exact HO103.out⟩, ⟨by (with_reducible repeat (first | apply Kd.R_alloc | apply Kd.R_drewN | apply Kd.R_drew)); exact HO106.out⟩, ⟨Sq.kl HB⟩⟩
 clear H'
 try clear c2
 try clear p2
 obtain ⟨x4_1, x5_1, x6_1, rfl, HA, HK1, HO_4, HO_5, HB⟩ := hrel
 cases gk with
 | zero => exact absurd HA.out (by simp [longcaseref06_Names.l0])
 | succ k1 =>
  have H := HA.out
  clear HA
  simp only [longcaseref06_Names.l0] at H
  by_cases c6 : x6_1 < (l0.length : Int)
  rotate_left
  ·
   rw [if_neg c6] at H
   have c6b0 : decide (x6_1 < (l0.length : Int)) = false := decide_eq_false c6
   clear c6
   simp only [Option.some.injEq, Prod.mk.injEq] at H
   obtain ⟨rfl, rfl⟩ := H
   go_wp2
   repeat (go_quiet (fail); try go_wp2)
   go_ret2
   exact ⟨_, _, by first | rfl | (simp [errW_none, errW_some] <;> rfl) | (simp [*, errW_none, errW_some] <;> rfl), by (with_reducible repeat (first | apply Kd.R_alloc | apply Kd.R_drewN | apply Kd.R_drew)); exact HO_4.out, by (with_reducible repeat (first | apply Kd.R_alloc | apply Kd.R_drewN | apply Kd.R_drew)); exact HO_5.out, by repeat (first | (with_reducible first | exact HB.out | apply below_alloc | apply pw_below_drewN | apply below_drew1) | exact HB.out)⟩
  rw [if_pos c6] at H
  have c6b0 : decide (x6_1 < (l0.length : Int)) = true := decide_eq_true c6
  clear c6
  have H' := Aside0.mk H
  clear H
  go_wp2
  repeat (go_quiet (fail); try go_wp2)
  go_loopg [7, 8] k1 (fun kq v7 v8 w' => ∃ (x7_2 : Int) (x8_2 : Int), v7 = .int .i64 x7_2 ∧ v8 = .int .i64 x8_2 ∧ Aside0 (longcaseref06_Names.l1 kq l0 x4_1 x5_1 x6_1 x7_2 x8_2 = some (r1, r2)) ∧ Aside0 (kq ≤ k1) ∧ Aside0 (Kd.R (Kd.int .u8) 5 w' w.heap.size (fun _ => True) u4 x4_1) ∧ Aside0 (Kd.R (Kd.int .i64) 3 w' w.heap.size (fun _ => True) u5 x5_1) ∧ Aside0 (Below w.heap.size w w'))
  case atStart => exact ⟨((-1)), (0), (by first | rfl | (simp; done) | (simp [*]; done)), (by first | rfl | (simp; done) | (simp [*]; done)), H', ⟨Nat.le_refl _⟩, ⟨by (with_reducible repeat (first | apply Kd.R_alloc | apply Kd.R_drewN | apply Kd.R_drew)); exact HO_4.out⟩, ⟨by (with_reducible repeat (first | apply Kd.R_alloc | apply Kd.R_drewN | apply Kd.R_drew)); exact HO_5.out⟩, ⟨Sq.kl HB⟩⟩
  clear H'
  try clear c2
  try clear p2
  try clear c6
  try clear c6b0
  try clear p2
  obtain ⟨x7_2, x8_2, rfl, rfl, HA, HK2, HO_4, HO_5, HB⟩ := hrel
  cases gk with
  | zero => exact absurd HA.out (by simp [longcaseref06_Names.l1])
  | succ k2 =>
   have H := HA.out
   clear HA
   simp only [longcaseref06_Names.l1] at H
   have HC7 := Aside0.mk H
   clear H
   go_upto_region 8 with (fail)
   repeat (go_quiet (fail); go_upto_region 8 with (fail))
   go_cut [23] (fun v23 wc => ∃ (kq : Nat) (x23_6 : Bool), v23 = .bool x23_6 ∧ Aside0 (longcaseref06_Names.j2 kq l0 x4_1 x5_1 x6_1 x7_2 x8_2 x23_6 = some (r1, r2)) ∧ Aside0 (kq ≤ k2) ∧ Aside0 (Kd.R (Kd.int .u8) 5 wc w.heap.size (fun _ => True) u4 x4_1) ∧ Aside0 (Kd.R (Kd.int .i64) 3 wc w.heap.size (fun _ => True) u5 x5_1) ∧ Aside0 (Below w.heap.size w wc))
   case first =>
    have H := HC7.out
    clear HC7
    by_cases c8 : x8_2 < x6_1
    rotate_left
    ·
     rw [if_neg c8] at H
     have c8b0 : decide (x8_2 < x6_1) = false := decide_eq_false c8
     clear c8
     (first | rw [c8b0] | rw [c8b1] | (simp only [i64_w, i32_w]; rw [c8b0]) | skip)
     have H' := Aside0.mk H
     clear H
     go_wp2
     repeat (go_quiet (fail); try go_wp2)
     go_meet
     case rel => exact ⟨_, (false), (by first | rfl | (simp; done) | (simp [*]; done)), H', ⟨by have := HK1.out; have := HK2.out; first | omega | exact Nat.le_refl _⟩, ⟨by (with_reducible repeat (first | apply Kd.R_alloc | apply Kd.R_drewN | apply Kd.R_drew)); exact HO_4.out⟩, ⟨by (with_reducible repeat (first | apply Kd.R_alloc | apply Kd.R_drewN | apply Kd.R_drew)); exact HO_5.out⟩, ⟨Sq.kl HB⟩⟩
    rw [if_pos c8] at H
    have c8b0 : decide (x8_2 < x6_1) = true := decide_eq_true c8
    clear c8
    (first | rw [c8b0] | rw [c8b1] | (simp only [i64_w, i32_w]; rw [c8b0]) | skip)
    have H' := Aside0.mk H
    clear H
    go_wp2
    repeat (go_quiet (fail); try go_wp2)
    go_meet
    case rel => exact ⟨_, (decide (x7_2 < 0)), (by first | rfl | (simp; done) | (simp [*]; done)), H', ⟨by have := HK1.out; have := HK2.out; first | omega | exact Nat.le_refl _⟩, ⟨by (with_reducible repeat (first | apply Kd.R_alloc | apply Kd.R_drewN | apply Kd.R_drew)); exact HO_4.out⟩, ⟨by (with_reducible repeat (first | apply Kd.R_alloc | apply Kd.R_drewN | apply Kd.R_drew)); exact HO_5.out⟩, ⟨Sq.kl HB⟩⟩
   clear HC7
   try clear c2
   try clear p2
   try clear c6
   try clear c6b0
   try clear c8
   try clear c8b0
   try clear p2
   obtain ⟨kq, x23_6, rfl, HA, HJ6, HO_4, HO_5, HB⟩ := hcut
   cases kq with
   | zero => exact absurd HA.out (by simp [longcaseref06_Names.j2])
   | succ kj6 =>
    have H := HA.out
    clear HA
    simp only [longcaseref06_Names.j2] at H
    by_cases c9 : x23_6 = true
    ·
     subst c9
     rw [if_pos rfl] at H
     by_cases c10 : 0 ≤ x8_2
     rotate_left
     ·
      rw [if_neg c10] at H
      exact absurd H (by simp)
     rw [if_pos c10] at H
     have c10b0 : decide (0 ≤ x8_2) = true := decide_eq_true c10
     clear c10
     by_cases c11 : x8_2 < (l0.length : Int)
     rotate_left
     ·
      rw [if_neg c11] at H
      exact absurd H (by simp)
     rw [if_pos c11] at H
     have c11b0 : decide (x8_2 < (l0.length : Int)) = true := decide_eq_true c11
     clear c11
     by_cases c12 : 0 ≤ x6_1
     rotate_left
     ·
      rw [if_neg c12] at H
      exact absurd H (by simp)
     rw [if_pos c12] at H
     have c12b0 : decide (0 ≤ x6_1) = true := decide_eq_true c12
     clear c12
     by_cases c13 : x6_1 < (l0.length : Int)
     rotate_left
     ·
      rw [if_neg c13] at H
      exact absurd H (by simp)
     rw [if_pos c13] at H
     have c13b0 : decide (x6_1 < (l0.length : Int)) = true := decide_eq_true c13
     clear c13
     by_cases c14 : ((rd_T56 l0 x8_2).f2).toList = ((rd_T56 l0 x6_1).f2).toList
     rotate_left
     ·
      rw [if_neg c14] at H
      have c14b0 : (((rd_T56 l0 x8_2).f2).toList == ((rd_T56 l0 x6_1).f2).toList) = false := beq_eq_false_iff_ne.mpr c14
      have c14b1 : (((rd_T56 l0 x8_2).f2).toList != ((rd_T56 l0 x6_1).f2).toList) = true := bne_iff_ne.mpr c14
      have H' := Aside0.mk H
      clear H
      have p107 : 0 ≤ (x8_2 : Int) := of_decide_eq_true (by first | (with_reducible assumption) | assumption)
      have q107 : x8_2 < (l0.length : Int) := of_decide_eq_true (by first | (with_reducible assumption) | assumption)
      obtain ⟨ad107, e107, hx107_0, hx107_1, hx107_2⟩ := at_T56 HR0.out x8_2 p107 q107
      cases e107
      replace hx107_0 := (HB.out.cell (World.block_lt_of_cell? w _ hx107_0)).trans hx107_0
      replace hx107_1 := (HB.out.cell (World.block_lt_of_cell? w _ hx107_1)).trans hx107_1
      replace hx107_2 := (HB.out.cell (World.block_lt_of_cell? w _ hx107_2)).trans hx107_2
      replace p107 := eq_true p107
      replace q107 := eq_true q107
      have p108 : 0 ≤ (x6_1 : Int) := of_decide_eq_true (by first | (with_reducible assumption) | assumption)
      have q108 : x6_1 < (l0.length : Int) := of_decide_eq_true (by first | (with_reducible assumption) | assumption)
      obtain ⟨ad108, e108, hx108_0, hx108_1, hx108_2⟩ := at_T56 HR0.out x6_1 p108 q108
      obtain rfl : ad107 = ad108 := (by injection e108)
      replace hx108_0 := (HB.out.cell (World.block_lt_of_cell? w _ hx108_0)).trans hx108_0
      replace hx108_1 := (HB.out.cell (World.block_lt_of_cell? w _ hx108_1)).trans hx108_1
      replace hx108_2 := (HB.out.cell (World.block_lt_of_cell? w _ hx108_2)).trans hx108_2
      replace p108 := eq_true p108
      replace q108 := eq_true q108
      go_wp2
      repeat (go_quiet (fail); try go_wp2)
      go_roundg kj6
      case measure => have := HK1.out; have := HK2.out; have := HJ6.out; omega
      case rel => exact ⟨(x7_2), (wrap64 (x8_2 + 1)), (by first | rfl | (simp; done) | (simp [*]; done)), (by first | rfl | (simp; done) | (simp [*]; done)), H', ⟨by have := HK1.out; have := HK2.out; have := HJ6.out; omega⟩, ⟨by (with_reducible repeat (first | apply Kd.R_alloc | apply Kd.R_drewN | apply Kd.R_drew)); exact HO_4.out⟩, ⟨by (with_reducible repeat (first | apply Kd.R_alloc | apply Kd.R_drewN | apply Kd.R_drew)); exact HO_5.out⟩, ⟨Sq.kl HB⟩⟩
     rw [if_pos c14] at H
     have c14b0 : (((rd_T56 l0 x8_2).f2).toList == ((rd_T56 l0 x6_1).f2).toList) = true := beq_iff_eq.mpr c14
     have c14b1 : (((rd_T56 l0 x8_2).f2).toList != ((rd_T56 l0 x6_1).f2).toList) = false := bne_eq_false_iff_eq.mpr c14
     clear c14
     by_cases c15 : x8_2 < (x5_1.length : Int)
     rotate_left
     ·
      rw [if_neg c15] at H
      exact absurd H (by simp)
     rw [if_pos c15] at H
     have c15b0 : decide (x8_2 < (x5_1.length : Int)) = true := decide_eq_true c15
     clear c15
     have H' := Aside0.mk H
     clear H
     have p107 : 0 ≤ (x8_2 : Int) := of_decide_eq_true (by first | (with_reducible assumption) | assumption)
     have q107 : x8_2 < (l0.length : Int) := of_decide_eq_true (by first | (with_reducible assumption) | assumption)
     obtain ⟨ad107, e107, hx107_0, hx107_1, hx107_2⟩ := at_T56 HR0.out x8_2 p107 q107
     cases e107
     replace hx107_0 := (HB.out.cell (World.block_lt_of_cell? w _ hx107_0)).trans hx107_0
     replace hx107_1 := (HB.out.cell (World.block_lt_of_cell? w _ hx107_1)).trans hx107_1
     replace hx107_2 := (HB.out.cell (World.block_lt_of_cell? w _ hx107_2)).trans hx107_2
     replace p107 := eq_true p107
     replace q107 := eq_true q107
     have p108 : 0 ≤ (x6_1 : Int) := of_decide_eq_true (by first | (with_reducible assumption) | assumption)
     have q108 : x6_1 < (l0.length : Int) := of_decide_eq_true (by first | (with_reducible assumption) | assumption)
     obtain ⟨ad108, e108, hx108_0, hx108_1, hx108_2⟩ := at_T56 HR0.out x6_1 p108 q108
     obtain rfl : ad107 = ad108 := (by injection e108)
     replace hx108_0 := (HB.out.cell (World.block_lt_of_cell? w _ hx108_0)).trans hx108_0
     replace hx108_1 := (HB.out.cell (World.block_lt_of_cell? w _ hx108_1)).trans hx108_1
     replace hx108_2 := (HB.out.cell (World.block_lt_of_cell? w _ hx108_2)).trans hx108_2
     replace p108 := eq_true p108
     replace q108 := eq_true q108
     obtain ⟨Ao16, co16, eo16⟩ := Kd.R_slice HO_5.out
     subst eo16
     have p109 : 0 ≤ (x8_2 : Int) := of_decide_eq_true (by first | (with_reducible assumption) | assumption)
     have q109 : x8_2 < (x5_1.length : Int) := of_decide_eq_true (by first | (with_reducible assumption) | assumption)
     obtain ⟨ad109, e109, hx109_0⟩ := Kd.at_int (Kd.R_reads' HO_5.out).2.2 x8_2 p109 q109
     cases e109
     replace p109 := eq_true p109
     replace q109 := eq_true q109
     go_wp2
     repeat (go_quiet (fail); try go_wp2)
     go_roundg kj6
     case measure => have := HK1.out; have := HK2.out; have := HJ6.out; omega
     case rel => exact ⟨(rd x5_1 x8_2), (wrap64 (x8_2 + 1)), (by first | rfl | (simp; done) | (simp [*]; done)), (by first | rfl | (simp; done) | (simp [*]; done)), H', ⟨by have := HK1.out; have := HK2.out; have := HJ6.out; omega⟩, ⟨by (with_reducible repeat (first | apply Kd.R_alloc | apply Kd.R_drewN | apply Kd.R_drew)); exact HO_4.out⟩, ⟨by (with_reducible repeat (first | apply Kd.R_alloc | apply Kd.R_drewN | apply Kd.R_drew)); exact HO_5.out⟩, ⟨Sq.kl HB⟩⟩
    replace c9 := Bool.eq_false_iff.mpr c9
    subst c9
    rw [if_neg (show ¬ (false = true) by decide)] at H
    by_cases c17 : x7_2 < 0
    rotate_left
    ·
     rw [if_neg c17] at H
     have c17b0 : decide (x7_2 < 0) = false := decide_eq_false c17
     clear c17
     by_cases c27 : x5_1.length < 17592186044416
     rotate_left
     ·
      rw [if_neg c27] at H
      exact absurd H (by simp)
     rw [if_pos c27] at H
     have LMc27 := Aside0.mk c27
     clear c27
     obtain ⟨y120, hy120⟩ : ∃ y_ : List Int, y_ = (x5_1 ++ [x7_2]) := ⟨_, rfl⟩
     replace H : (longcaseref06_Names.l0 kj6 l0 x4_1 y120 (wrap64 (x6_1 + 1))) = some (r1, r2) := by first | (rw [hy120]; with_reducible exact H) | (have H2_ := (Option.bind_some _ _).symm.trans H; rw [hy120]; with_reducible exact H2_) | (have H2_ := (Option.bind_some _ _).symm.trans H; with_reducible exact H2_) | with_reducible exact H | (rw [hy120]; exact H) | exact H
     have Ny120 := Aside0.mk hy120
     clear hy120
     have H' := Aside0.mk H
     clear H
     go_wp2_with (first | ((with_reducible refine gate_builtin (b := .append) (xs := #[.tmp 54, .tmp 56]) rfl ?_); at_builtin; refine Kd.R_append (Kd.int .i64) (w0 := w) w.heap.size rfl (.tmp 54) (.tmp 56) 62 3 (.int .i64 0) 8 rfl Try.underlying62 info3 rfl (by decide) (by omega) u5 x5_1 x7_2 [.int .i64 x7_2] (fun _ => True) (fun _ => False) rfl rfl ?aP (fun _ hk => hk.elim) ?aF ?aO ?aB ?aS ?aL ?_; (case aP => exact rfl); (case aB => exact (Sq.kl HB)); (case aF => exact (fun _ _ => trivial)); (case aO => exact (kr HO_5)); (case aS => exact (below_size (Sq.kl HB))); (case aL => have := LMc27.out; omega); intro v121 w28 ho hb hg hat; rw [← Ny120.out] at ho; replace HO_4 := Aside0.mk (Kd.R_over' (kr HO_4) (Kd.R_typed (kr HO_5)) (by decide) hg); replace HB := Aside0.mk (hb); have HO122 := Aside0.mk (ho); clear HO_5; clear ho hb hg hat))
     repeat (go_quiet (first | ((with_reducible refine gate_builtin (b := .append) (xs := #[.tmp 54, .tmp 56]) rfl ?_); at_builtin; refine Kd.R_append (Kd.int .i64) (w0 := w) w.heap.size rfl (.tmp 54) (.tmp 56) 62 3 (.int .i64 0) 8 rfl Try.underlying62 info3 rfl (by decide) (by omega) u5 x5_1 x7_2 [.int .i64 x7_2] (fun _ => True) (fun _ => False) rfl rfl ?aP (fun _ hk => hk.elim) ?aF ?aO ?aB ?aS ?aL ?_; (case aP => exact rfl); (case aB => exact (Sq.kl HB)); (case aF => exact (fun _ _ => trivial)); (case aO => exact (kr HO_5)); (case aS => exact (below_size (Sq.kl HB))); (case aL => have := LMc27.out; omega); intro v121 w28 ho hb hg hat; rw [← Ny120.out] at ho; replace HO_4 := Aside0.mk (Kd.R_over' (kr HO_4) (Kd.R_typed (kr HO_5)) (by decide) hg); replace HB := Aside0.mk (hb); have HO122 := Aside0.mk (ho); clear HO_5; clear ho hb hg hat)); try go_wp2_with (first | ((with_reducible refine gate_builtin (b := .append) (xs := #[.tmp 54, .tmp 56]) rfl ?_); at_builtin; refine Kd.R_append (Kd.int .i64) (w0 := w) w.heap.size rfl (.tmp 54) (.tmp 56) 62 3 (.int .i64 0) 8 rfl Try.underlying62 info3 rfl (by decide) (by omega) u5 x5_1 x7_2 [.int .i64 x7_2] (fun _ => True) (fun _ => False) rfl rfl ?aP (fun _ hk => hk.elim) ?aF ?aO ?aB ?aS ?aL ?_; (case aP => exact rfl); (case aB => exact (Sq.kl HB)); (case aF => exact (fun _ _ => trivial)); (case aO => exact (kr HO_5)); (case aS => exact (below_size (Sq.kl HB))); (case aL => have := LMc27.out; omega); intro v121 w28 ho hb hg hat; rw [← Ny120.out] at ho; replace HO_4 := Aside0.mk (Kd.R_over' (kr HO_4) (Kd.R_typed (kr HO_5)) (by decide) hg); replace HB := Aside0.mk (hb); have HO122 := Aside0.mk (ho); clear HO_5; clear ho hb hg hat)))
     go_roundg kj6
     case measure => have := HK1.out; have := HK2.out; have := HJ6.out; omega
     case rel => exact ⟨(x4_1), (y120), (wrap64 (x6_1 + 1)), (by first | rfl | (simp; done) | (simp [*]; done)), H', ⟨by have := HK1.out; have := HK2.out; have := HJ6.out; omega⟩, ⟨by (with_reducible repeat (first | apply Kd.R_alloc | apply Kd.R_drewN | apply Kd.R_drew)); exact HO_4.out⟩, ⟨by (with_reducible repeat (first | apply Kd.R_alloc | apply Kd.R_drewN | apply Kd.R_drew)); exact HO122.out⟩, ⟨Sq.kl HB⟩⟩
    rw [if_pos c17] at H
    have c17b0 : decide (x7_2 < 0) = true := decide_eq_true c17
    clear c17
    by_cases c18 : 0 ≤ x6_1
    rotate_left
    ·
     rw [if_neg c18] at H
     exact absurd H (by simp)
    rw [if_pos c18] at H
    have c18b0 : decide (0 ≤ x6_1) = true := decide_eq_true c18
    clear c18
    by_cases c19 : x6_1 < (l0.length : Int)
    rotate_left
    ·
     rw [if_neg c19] at H
     exact absurd H (by simp)
    rw [if_pos c19] at H
    have c19b0 : decide (x6_1 < (l0.length : Int)) = true := decide_eq_true c19
    clear c19
    by_cases c20 : x4_1.length + ((rd_T56 l0 x6_1).f2).size < 140737488355328
    rotate_left
    ·
     rw [if_neg c20] at H
     exact absurd H (by simp)
    rw [if_pos c20] at H
    have LMc20 := Aside0.mk c20
    clear c20
    obtain ⟨y111, hy111⟩ : ∃ y_ : List Int, y_ = (x4_1 ++ bytesOf ((rd_T56 l0 x6_1).f2)) := ⟨_, rfl⟩
    replace H : (if y111.length < 140737488355328 then (if x5_1.length < 17592186044416 then (longcaseref06_Names.l0 kj6 l0 (y111 ++ [0]) (x5_1 ++ [(x4_1.length : Int)]) (wrap64 (x6_1 + 1))) else (none)) else (none)) = some (r1, r2) := by first | (rw [hy111]; with_reducible exact H) | (have H2_ := (Option.bind_some _ _).symm.trans H; rw [hy111]; with_reducible exact H2_) | (have H2_ := (Option.bind_some _ _).symm.trans H; with_reducible exact H2_) | with_reducible exact H | (rw [hy111]; exact H) | exact H
    have Ny111 := Aside0.mk hy111
    clear hy111
    by_cases c21 : y111.length < 140737488355328
    rotate_left
    ·
     rw [if_neg c21] at H
     exact absurd H (by simp)
    rw [if_pos c21] at H
    have LMc21 := Aside0.mk c21
    clear c21
    obtain ⟨y114, hy114⟩ : ∃ y_ : List Int, y_ = (y111 ++ [0]) := ⟨_, rfl⟩
    replace H : (if x5_1.length < 17592186044416 then (longcaseref06_Names.l0 kj6 l0 y114 (x5_1 ++ [(x4_1.length : Int)]) (wrap64 (x6_1 + 1))) else (none)) = some (r1, r2) := by first | (rw [hy114]; with_reducible exact H) | (have H2_ := (Option.bind_some _ _).symm.trans H; rw [hy114]; with_reducible exact H2_) | (have H2_ := (Option.bind_some _ _).symm.trans H; with_reducible exact H2_) | with_reducible exact H | (rw [hy114]; exact H) | exact H
    have Ny114 := Aside0.mk hy114
    clear hy114
    by_cases c22 : x5_1.length < 17592186044416
    rotate_left
    ·
     rw [if_neg c22] at H
     exact absurd H (by simp)
    rw [if_pos c22] at H
    have LMc22 := Aside0.mk c22
    clear c22
    obtain ⟨y117, hy117⟩ : ∃ y_ : List Int, y_ = (x5_1 ++ [(x4_1.length : Int)]) := ⟨_, rfl⟩
    replace H : (longcaseref06_Names.l0 kj6 l0 y114 y117 (wrap64 (x6_1 + 1))) = some (r1, r2) := by first | (rw [hy117]; with_reducible exact H) | (have H2_ := (Option.bind_some _ _).symm.trans H; rw [hy117]; with_reducible exact H2_) | (have H2_ := (Option.bind_some _ _).symm.trans H; with_reducible exact H2_) | with_reducible exact H | (rw [hy117]; exact H) | exact H
    have Ny117 := Aside0.mk hy117
    clear hy117
    have H' := Aside0.mk H
    clear H
    obtain ⟨Ao23, co23, eo23⟩ := Kd.R_slice HO_4.out
    subst eo23
    have p110 : 0 ≤ (x6_1 : Int) := of_decide_eq_true (by first | (with_reducible assumption) | assumption)
    have q110 : x6_1 < (l0.length : Int) := of_decide_eq_true (by first | (with_reducible assumption) | assumption)
    obtain ⟨ad110, e110, hx110_0, hx110_1, hx110_2⟩ := at_T56 HR0.out x6_1 p110 q110
    cases e110
    replace hx110_0 := (HB.out.cell (World.block_lt_of_cell? w _ hx110_0)).trans hx110_0
    replace hx110_1 := (HB.out.cell (World.block_lt_of_cell? w _ hx110_1)).trans hx110_1
    replace hx110_2 := (HB.out.cell (World.block_lt_of_cell? w _ hx110_2)).trans hx110_2
    replace p110 := eq_true p110
    replace q110 := eq_true q110
    go_wp2_with (first | (at_builtin; refine print_append_str (w0 := w) w.heap.size rfl (.tmp 45) _ 33 9 5 rfl Try.underlying33 Try.underlying9 info5 (.slice Ao23 x4_1.length co23) x4_1 ((rd_T56 l0 x6_1).f2) rfl rfl ?aO ?aB ?aS ?aL ?_; (case aB => exact (Sq.kl HB)); (case aO => exact (Kd.own_of_R (kr HO_4))); (case aS => exact (below_size (Sq.kl HB))); (case aL => have := LMc20.out; omega); intro v112 w24 ho0 hb hg; have ho := Kd.R_of_own (h1 := fun _ => rfl) (ok := fun _ => True) ho0 (fun _ _ => trivial); clear ho0; have hat := True.intro; rw [← Ny111.out] at ho; change Kd.R (Kd.int .u8) 5 w24 w.heap.size (fun _ => True) v112 y111 at ho; replace HO_5 := Aside0.mk (Kd.R_over' (kr HO_5) (Kd.R_typed (kr HO_4)) (by decide) hg); replace HB := Aside0.mk (hb); have HO113 := Aside0.mk (ho); clear HO_4; clear ho hb hg hat) | ((with_reducible refine gate_builtin (b := .append) (xs := #[.tmp 51, .tmp 52]) rfl ?_); at_builtin; refine Kd.R_append (Kd.int .u8) (w0 := w) w.heap.size rfl (.tmp 51) (.tmp 52) 33 5 (.int .u8 0) 1 rfl Try.underlying33 info5 rfl (by decide) (by omega) v112 y111 0 [.int .u8 0] (fun _ => True) (fun _ => False) rfl rfl ?aP (fun _ hk => hk.elim) ?aF ?aO ?aB ?aS ?aL ?_; (case aP => exact rfl); (case aB => exact (Sq.kl HB)); (case aF => exact (fun _ _ => trivial)); (case aO => exact (kr HO113)); (case aS => exact (below_size (Sq.kl HB))); (case aL => have := LMc21.out; omega); intro v115 w25 ho hb hg hat; rw [← Ny114.out] at ho; replace HO_5 := Aside0.mk (Kd.R_over' (kr HO_5) (Kd.R_typed (kr HO113)) (by decide) hg); replace HB := Aside0.mk (hb); have HO116 := Aside0.mk (ho); clear HO113; clear ho hb hg hat) | ((with_reducible refine gate_builtin (b := .append) (xs := #[.tmp 54, .tmp 56]) rfl ?_); at_builtin; refine Kd.R_append (Kd.int .i64) (w0 := w) w.heap.size rfl (.tmp 54) (.tmp 56) 62 3 (.int .i64 0) 8 rfl Try.underlying62 info3 rfl (by decide) (by omega) u5 x5_1 (x4_1.length : Int) [.int .i64 (x4_1.length : Int)] (fun _ => True) (fun _ => False) rfl rfl ?aP (fun _ hk => hk.elim) ?aF ?aO ?aB ?aS ?aL ?_; (case aP => exact rfl); (case aB => exact (Sq.kl HB)); (case aF => exact (fun _ _ => trivial)); (case aO => exact (kr HO_5)); (case aS => exact (below_size (Sq.kl HB))); (case aL => have := LMc22.out; omega); intro v118 w26 ho hb hg hat; rw [← Ny117.out] at ho; replace HO116 := Aside0.mk (Kd.R_over' (kr HO116) (Kd.R_typed (kr HO_5)) (by decide) hg); replace HB := Aside0.mk (hb); have HO119 := Aside0.mk (ho); clear HO_5; clear ho hb hg hat))
    repeat (go_quiet (first | (at_builtin; refine print_append_str (w0 := w) w.heap.size rfl (.tmp 45) _ 33 9 5 rfl Try.underlying33 Try.underlying9 info5 (.slice Ao23 x4_1.length co23) x4_1 ((rd_T56 l0 x6_1).f2) rfl rfl ?aO ?aB ?aS ?aL ?_; (case aB => exact (Sq.kl HB)); (case aO => exact (Kd.own_of_R (kr HO_4))); (case aS => exact (below_size (Sq.kl HB))); (case aL => have := LMc20.out; omega); intro v112 w24 ho0 hb hg; have ho := Kd.R_of_own (h1 := fun _ => rfl) (ok := fun _ => True) ho0 (fun _ _ => trivial); clear ho0; have hat := True.intro; rw [← Ny111.out] at ho; change Kd.R (Kd.int .u8) 5 w24 w.heap.size (fun _ => True) v112 y111 at ho; replace HO_5 := Aside0.mk (Kd.R_over' (kr HO_5) (Kd.R_typed (kr HO_4)) (by decide) hg); replace HB := Aside0.mk (hb); have HO113 := Aside0.mk (ho); clear HO_4; clear ho hb hg hat) | ((with_reducible refine gate_builtin (b := .append) (xs := #[.tmp 51, .tmp 52]) rfl ?_); at_builtin; refine Kd.R_append (Kd.int .u8) (w0 := w) w.heap.size rfl (.tmp 51) (.tmp 52) 33 5 (.int .u8 0) 1 rfl Try.underlying33 info5 rfl (by decide) (by omega) v112 y111 0 [.int .u8 0] (fun _ => True) (fun _ => False) rfl rfl ?aP (fun _ hk => hk.elim) ?aF ?aO ?aB ?aS ?aL ?_; (case aP => exact rfl); (case aB => exact (Sq.kl HB)); (case aF => exact (fun _ _ => trivial)); (case aO => exact (kr HO113)); (case aS => exact (below_size (Sq.kl HB))); (case aL => have := LMc21.out; omega); intro v115 w25 ho hb hg hat; rw [← Ny114.out] at ho; replace HO_5 := Aside0.mk (Kd.R_over' (kr HO_5) (Kd.R_typed (kr HO113)) (by decide) hg); replace HB := Aside0.mk (hb); have HO116 := Aside0.mk (ho); clear HO113; clear ho hb hg hat) | ((with_reducible refine gate_builtin (b := .append) (xs := #[.tmp 54, .tmp 56]) rfl ?_); at_builtin; refine Kd.R_append (Kd.int .i64) (w0 := w) w.heap.size rfl (.tmp 54) (.tmp 56) 62 3 (.int .i64 0) 8 rfl Try.underlying62 info3 rfl (by decide) (by omega) u5 x5_1 (x4_1.length : Int) [.int .i64 (x4_1.length : Int)] (fun _ => True) (fun _ => False) rfl rfl ?aP (fun _ hk => hk.elim) ?aF ?aO ?aB ?aS ?aL ?_; (case aP => exact rfl); (case aB => exact (Sq.kl HB)); (case aF => exact (fun _ _ => trivial)); (case aO => exact (kr HO_5)); (case aS => exact (below_size (Sq.kl HB))); (case aL => have := LMc22.out; omega); intro v118 w26 ho hb hg hat; rw [← Ny117.out] at ho; replace HO116 := Aside0.mk (Kd.R_over' (kr HO116) (Kd.R_typed (kr HO_5)) (by decide) hg); replace HB := Aside0.mk (hb); have HO119 := Aside0.mk (ho); clear HO_5; clear ho hb hg hat)); try go_wp2_with (first | (at_builtin; refine print_append_str (w0 := w) w.heap.size rfl (.tmp 45) _ 33 9 5 rfl Try.underlying33 Try.underlying9 info5 (.slice Ao23 x4_1.length co23) x4_1 ((rd_T56 l0 x6_1).f2) rfl rfl ?aO ?aB ?aS ?aL ?_; (case aB => exact (Sq.kl HB)); (case aO => exact (Kd.own_of_R (kr HO_4))); (case aS => exact (below_size (Sq.kl HB))); (case aL => have := LMc20.out; omega); intro v112 w24 ho0 hb hg; have ho := Kd.R_of_own (h1 := fun _ => rfl) (ok := fun _ => True) ho0 (fun _ _ => trivial); clear ho0; have hat := True.intro; rw [← Ny111.out] at ho; change Kd.R (Kd.int .u8) 5 w24 w.heap.size (fun _ => True) v112 y111 at ho; replace HO_5 := Aside0.mk (Kd.R_over' (kr HO_5) (Kd.R_typed (kr HO_4)) (by decide) hg); replace HB := Aside0.mk (hb); have HO113 := Aside0.mk (ho); clear HO_4; clear ho hb hg hat) | ((with_reducible refine gate_builtin (b := .append) (xs := #[.tmp 51, .tmp 52]) rfl ?_); at_builtin; refine Kd.R_append (Kd.int .u8) (w0 := w) w.heap.size rfl (.tmp 51) (.tmp 52) 33 5 (.int .u8 0) 1 rfl Try.underlying33 info5 rfl (by decide) (by omega) v112 y111 0 [.int .u8 0] (fun _ => True) (fun _ => False) rfl rfl ?aP (fun _ hk => hk.elim) ?aF ?aO ?aB ?aS ?aL ?_; (case aP => exact rfl); (case aB => exact (Sq.kl HB)); (case aF => exact (fun _ _ => trivial)); (case aO => exact (kr HO113)); (case aS => exact (below_size (Sq.kl HB))); (case aL => have := LMc21.out; omega); intro v115 w25 ho hb hg hat; rw [← Ny114.out] at ho; replace HO_5 := Aside0.mk (Kd.R_over' (kr HO_5) (Kd.R_typed (kr HO113)) (by decide) hg); replace HB := Aside0.mk (hb); have HO116 := Aside0.mk (ho); clear HO113; clear ho hb hg hat) | ((with_reducible refine gate_builtin (b := .append) (xs := #[.tmp 54, .tmp 56]) rfl ?_); at_builtin; refine Kd.R_append (Kd.int .i64) (w0 := w) w.heap.size rfl (.tmp 54) (.tmp 56) 62 3 (.int .i64 0) 8 rfl Try.underlying62 info3 rfl (by decide) (by omega) u5 x5_1 (x4_1.length : Int) [.int .i64 (x4_1.length : Int)] (fun _ => True) (fun _ => False) rfl rfl ?aP (fun _ hk => hk.elim) ?aF ?aO ?aB ?aS ?aL ?_; (case aP => exact rfl); (case aB => exact (Sq.kl HB)); (case aF => exact (fun _ _ => trivial)); (case aO => exact (kr HO_5)); (case aS => exact (below_size (Sq.kl HB))); (case aL => have := LMc22.out; omega); intro v118 w26 ho hb hg hat; rw [← Ny117.out] at ho; replace HO116 := Aside0.mk (Kd.R_over' (kr HO116) (Kd.R_typed (kr HO_5)) (by decide) hg); replace HB := Aside0.mk (hb); have HO119 := Aside0.mk (ho); clear HO_5; clear ho hb hg hat)))
    go_roundg kj6
    case measure => have := HK1.out; have := HK2.out; have := HJ6.out; omega
    case rel => exact ⟨(y114), (y117), (wrap64 (x6_1 + 1)), (by first | rfl | (simp; done) | (simp [*]; done)), H', ⟨by have := HK1.out; have := HK2.out; have := HJ6.out; omega⟩, ⟨by (with_reducible repeat (first | apply Kd.R_alloc | apply Kd.R_drewN | apply Kd.R_drew)); exact HO116.out⟩, ⟨by (with_reducible repeat (first | apply Kd.R_alloc | apply Kd.R_drewN | apply Kd.R_drew)); exact HO119.out⟩, ⟨Sq.kl HB⟩⟩
def longcaseref04_Put.l0 : Nat → Int → List Int → Int → Option (List Int)
 | 0, _, _, _ => none
 | k + 1, x2, x7, x8 => if x8 > 0 then (if 0 ≤ (IntKind.u64.wrap (wrap64 ((wrap64 (8 * x8)) - 8))) then (if x7.length < 140737488355328 then (longcaseref04_Put.l0 k x2 (x7 ++ [(shr .u64 x2 (IntKind.u64.wrap (wrap64 ((wrap64 (8 * x8)) - 8)))) % 256]) (wrap64 (x8 - 1))) else (none)) else (none)) else (some x7)
def longcaseref04_Put.f (k : Nat) (l0 : List Int) (a1 : Int) (a2 : Int) : Option (List Int) := (some (([] : List Int) : List Int)).bind fun y123 => (if y123.length + l0.length < 140737488355328 then (longcaseref04_Put.l0 k a2 (y123 ++ l0) (mn a1 8)) else (none))
set_option maxHeartbeats 8000000 in
set_option maxRecDepth 100000 in
theorem longcaseref04_Put.calls (k : Nat) (A0 : Option Addr) (c0 : Nat) (l0 : List Int) (a1 : Int) (a2 : Int) (r : List Int) (w : World) (hr0 : Kd.C (Kd.int .u8) w A0 l0.length l0) (hc0 : l0.length ≤ c0) (h : longcaseref04_Put.f k l0 a1 a2 = some r) :
  Calls Try.prog 34 #[.slice A0 l0.length c0, .int .i64 a1, .int .u64 a2] w fun e w' => ∃ v0_ : Value, e = .returned (v0_) ∧ Kd.R (Kd.int .u8) 5 w' w.heap.size (fun _ => True) v0_ r ∧ Below w.heap.size w w' := by
 have HR0 := Aside0.mk hr0
 have HC0 := Aside0.mk hc0
 clear hr0 hc0
 have HB := Aside0.mk (Below.refl w.heap.size w)
 have H : ((some (([] : List Int) : List Int)).bind fun y123 => (if y123.length + l0.length < 140737488355328 then (longcaseref04_Put.l0 k a2 (y123 ++ l0) (mn a1 8)) else (none))) = some r := h
 clear h
 obtain ⟨y123, hy123⟩ : ∃ y_ : List Int, y_ = (([] : List Int)) := ⟨_, rfl⟩
 replace H : (if y123.length + l0.length < 140737488355328 then (longcaseref04_Put.l0 k a2 (y123 ++ l0) (mn a1 8)) else (none)) = some r := by first | (rw [hy123]; with_reducible exact H) | (have H2_ := (Option.bind_some _ _).symm.trans H; rw [hy123]; with_reducible exact H2_) | (have H2_ := (Option.bind_some _ _).symm.trans H; with_reducible exact H2_) | with_reducible exact H | (rw [hy123]; exact H) | exact H
 have Ny123 := Aside0.mk hy123
 clear hy123
 by_cases c4 : y123.length + l0.length < 140737488355328
 rotate_left
 ·
  rw [if_neg c4] at H
  exact absurd H (by simp)
 rw [if_pos c4] at H
 have LMc4 := Aside0.mk c4
 clear c4
 obtain ⟨y126, hy126⟩ : ∃ y_ : List Int, y_ = (y123 ++ l0) := ⟨_, rfl⟩
 replace H : (longcaseref04_Put.l0 k a2 y126 (mn a1 8)) = some r := by first | (rw [hy126]; with_reducible exact H) | (have H2_ := (Option.bind_some _ _).symm.trans H; rw [hy126]; with_reducible exact H2_) | (have H2_ := (Option.bind_some _ _).symm.trans H; with_reducible exact H2_) | with_reducible exact H | (rw [hy126]; exact H) | exact H
 have Ny126 := Aside0.mk hy126
 clear hy126
 obtain ⟨ji5, hji5⟩ : ∃ j_ : Int, (mn a1 8) = j_ := ⟨_, rfl⟩
 replace H : (longcaseref04_Put.l0 k a2 y126 ji5) = some r := by first | (rw [hji5] at H; exact H) | (simp only [hji5] at H ⊢; exact H)
 (try (have hji5h : ji5 ≤ 8 := by (rw [← hji5]; unfold mn; (repeat' split) <;> omega)))
 (try (have hji5g : ji5 ≤ 64 := by omega))
 have hji5_ : (if 8 < a1 then 8 else a1) = ji5 := hji5
 have H' := Aside0.mk H
 clear H
 go_enter Try.func34, Try.ntmps34
 go_wp2_with (first | ((with_reducible refine gate_dst (N := 9) rfl ?_); refine Kd.R_lit (Kd.int .u8) _ 5 ?hg (N := 9) ?hd (xs := ([] : List Int)) (inner := []) (ok := fun _ => True) (okp := fun _ => True) ?hr ?hp (fun _ hk => hk) trivial (Below.refl _ _) (Nat.le_refl _) (by simp) ?_; (case hd => rfl); (case hg => rfl); (case hr => first | (go_simp; done) | (go_simp; rfl)); (case hp => exact (Reps.none _ _)); intro v124 w6 ho7 hb hg_ hnew_; clear hg_ hnew_; (first | rw [← Ny123.out] at ho7 | (simp only [Int.reduceToNat] at ho7; rw [← Ny123.out] at ho7)); have HO125 := Aside0.mk (Kd.R_lower ho7 (below_size (Sq.kl HB))); replace HB := Aside0.mk (below_step (Sq.kl HB) hb); clear hb ho7) | ((with_reducible refine gate_builtin (b := .append) (xs := #[.tmp 9, .tmp 10]) rfl ?_); at_builtin; refine Kd.R_append_rows (Kd.int .u8) (w0 := w) w.heap.size rfl (.tmp 9) (.tmp 10) 33 5 (.int .u8 0) 1 rfl Try.underlying33 info5 rfl (by decide) (by omega) v124 y123 l0 _ _ _ (fun _ => True) (fun _ => False) rfl rfl ?aO ?aR (fun _ _ h => h) (fun _ h => h.elim) ?aF ?aB ?aS ?aL ?_; (case aR => repeat (first | exact (Kd.C_below HR0.out HB.out) | (with_reducible refine Kd.C_alloc ?_ _) | (with_reducible refine Kd.C_drewN ?_ _) | (with_reducible refine Kd.C_drew ?_))); (case aB => exact (Sq.kl HB)); (case aF => exact (fun _ _ => trivial)); (case aO => exact (kr HO125)); (case aS => exact (below_size (Sq.kl HB))); (case aL => have := LMc4.out; omega); intro v127 w8 ho hb hg hat; rw [← Ny126.out] at ho; replace HB := Aside0.mk (hb); have HO128 := Aside0.mk (ho); clear HO125; clear ho hb hg hat))
 go_loopg [7, 8] k (fun kq v7 v8 w' => ∃ (x7_1 : List Int) (x8_1 : Int), v8 = .int .i64 x8_1 ∧ Aside0 (longcaseref04_Put.l0 kq a2 x7_1 x8_1 = some r) ∧ Aside0 (kq ≤ k) ∧ Aside0 (Kd.R (Kd.int .u8) 5 w' w.heap.size (fun _ => True) v7 x7_1) ∧ Aside0 (Below w.heap.size w w'))
 case atStart => exact ⟨(y126), (ji5), (by first | rfl | (simp; done) | (simp only [← hji5] <;> (first | rfl | simp)) | (simp [*]; done)), H', ⟨Nat.le_refl _⟩, ⟨by (with_reducible repeat (first | apply Kd.R_alloc | apply Kd.R_drewN | apply Kd.R_drew)); exact HO128.out⟩, ⟨Sq.kl HB⟩⟩
 clear H'
 try clear p2
 try clear c3
 try clear c4
 obtain ⟨x7_1, x8_1, rfl, HA, HK1, HO_7, HB⟩ := hrel
 cases gk with
 | zero => exact absurd HA.out (by simp [longcaseref04_Put.l0])
 | succ k1 =>
  have H := HA.out
  clear HA
  simp only [longcaseref04_Put.l0] at H
  by_cases c9 : x8_1 > 0
  rotate_left
  ·
   rw [if_neg c9] at H
   have c9b0 : decide (0 < x8_1) = false := decide_eq_false c9
   clear c9
   obtain rfl := Option.some.inj H
   go_wp2
   go_ret
   exact ⟨_, by first | rfl | (simp [errW_none, errW_some] <;> rfl) | (simp only [← hji5]; first | rfl | (simp [errW_none, errW_some] <;> rfl)) | (simp [*, errW_none, errW_some] <;> rfl), by (with_reducible repeat (first | apply Kd.R_alloc | apply Kd.R_drewN | apply Kd.R_drew)); exact HO_7.out, by repeat (first | (with_reducible first | exact HB.out | apply below_alloc | apply pw_below_drewN | apply below_drew1) | exact HB.out)⟩
  rw [if_pos c9] at H
  have c9b0 : decide (0 < x8_1) = true := decide_eq_true c9
  clear c9
  obtain ⟨ji10, hji10⟩ : ∃ j_ : Int, (IntKind.u64.wrap (wrap64 ((wrap64 (8 * x8_1)) - 8))) = j_ := ⟨_, rfl⟩
  replace H : (if 0 ≤ (ji10) then (if x7_1.length < 140737488355328 then (longcaseref04_Put.l0 k1 a2 (x7_1 ++ [(shr .u64 a2 (ji10)) % 256]) (wrap64 (x8_1 - 1))) else (none)) else (none)) = some r := by first | (rw [hji10] at H; exact H) | (simp only [hji10] at H ⊢; exact H)
  by_cases c11 : 0 ≤ (ji10)
  rotate_left
  ·
   rw [if_neg c11] at H
   exact absurd H (by simp)
  rw [if_pos c11] at H
  have c11b0 := eq_true c11
  have c11b1 : decide (0 ≤ (ji10)) = true := decide_eq_true c11
  clear c11
  obtain ⟨ji12, hji12⟩ : ∃ j_ : Int, (shr .u64 a2 (ji10)) = j_ := ⟨_, rfl⟩
  replace H : (if x7_1.length < 140737488355328 then (longcaseref04_Put.l0 k1 a2 (x7_1 ++ [(ji12) % 256]) (wrap64 (x8_1 - 1))) else (none)) = some r := by first | (rw [hji12] at H; exact H) | (simp only [hji12] at H ⊢; exact H)
  have hji12_ : (a2 / 2 ^ min (ji10).toNat 64) = ji12 := hji12
  have hji12z : (ji10) ≤ 64 → (a2 / 2 ^ (ji10).toNat) = ji12 := shr_small hji12
  by_cases c13 : x7_1.length < 140737488355328
  rotate_left
  ·
   rw [if_neg c13] at H
   exact absurd H (by simp)
  rw [if_pos c13] at H
  have LMc13 := Aside0.mk c13
  clear c13
  obtain ⟨y129, hy129⟩ : ∃ y_ : List Int, y_ = (x7_1 ++ [(ji12) % 256]) := ⟨_, rfl⟩
  replace H : (longcaseref04_Put.l0 k1 a2 y129 (wrap64 (x8_1 - 1))) = some r := by first | (rw [hy129]; with_reducible exact H) | (have H2_ := (Option.bind_some _ _).symm.trans H; rw [hy129]; with_reducible exact H2_) | (have H2_ := (Option.bind_some _ _).symm.trans H; with_reducible exact H2_) | with_reducible exact H | (rw [hy129]; exact H) | exact H
  have Ny129 := Aside0.mk hy129
  clear hy129
  have H' := Aside0.mk H
  clear H
  go_wp2_with (first | ((with_reducible refine gate_builtin (b := .append) (xs := #[.tmp 18, .tmp 26]) rfl ?_); at_builtin; refine Kd.R_append (Kd.int .u8) (w0 := w) w.heap.size rfl (.tmp 18) (.tmp 26) 33 5 (.int .u8 0) 1 rfl Try.underlying33 info5 rfl (by decide) (by omega) u7 x7_1 ((ji12) % 256) [.int .u8 ((ji12) % 256)] (fun _ => True) (fun _ => False) rfl rfl ?aP (fun _ hk => hk.elim) ?aF ?aO ?aB ?aS ?aL ?_; (case aP => exact rfl); (case aB => exact (Sq.kl HB)); (case aF => exact (fun _ _ => trivial)); (case aO => exact (kr HO_7)); (case aS => exact (below_size (Sq.kl HB))); (case aL => have := LMc13.out; omega); intro v130 w14 ho hb hg hat; rw [← Ny129.out] at ho; replace HB := Aside0.mk (hb); have HO131 := Aside0.mk (ho); clear HO_7; clear ho hb hg hat))
  go_roundg k1
  case measure => have := HK1.out; omega
  case rel => exact ⟨(y129), (wrap64 (x8_1 - 1)), (by first | rfl | (simp; done) | (simp [*]; done)), H', ⟨by have := HK1.out; omega⟩, ⟨by (with_reducible repeat (first | apply Kd.R_alloc | apply Kd.R_drewN | apply Kd.R_drew)); exact HO131.out⟩, ⟨Sq.kl HB⟩⟩
def longcaseref06_truth.f (l0 : List Int) (a1 : Bool) : Option (List Int) := if a1 = true then (if l0.length < 140737488355328 then (some (l0 ++ [1])) else (none)) else (if l0.length < 140737488355328 then (some (l0 ++ [0])) else (none))
set_option maxHeartbeats 8000000 in
set_option maxRecDepth 100000 in
theorem longcaseref06_truth.calls (P0_ : Nat → Prop) (u9000_ : Value) (l0 : List Int) (a1 : Bool) (r : List Int) (w0 w : World) (hB : Below w0.heap.size w0 w) (ho0 : Kd.R (Kd.int .u8) 5 w w0.heap.size P0_ u9000_ l0) (h : longcaseref06_truth.f l0 a1 = some r) :
  Calls Try.prog 35 #[u9000_, .bool a1] w fun e w' => ∃ v0_ : Value, e = .returned (v0_) ∧ Kd.R (Kd.int .u8) 5 w' w0.heap.size (fun k_ => (P0_ k_ ∨ w.heap.size ≤ k_)) v0_ r ∧ Below w0.heap.size w0 w' ∧ Kept w w' (fun k_ => P0_ k_) := by
 have HO0 := Aside0.mk (show Kd.R (Kd.int .u8) 5 w w0.heap.size (fun k_ => (P0_ k_ ∨ w.heap.size ≤ k_)) u9000_ l0 from Kd.R_mono ho0 (fun k_ hk => (.inl hk)))
 have HK := Aside0.mk (Kept.refl w (fun k_ => P0_ k_))
 have HW0 := Aside0.mk hB.size
 have HB := Aside0.mk hB
 clear hB
 have H : (if a1 = true then (if l0.length < 140737488355328 then (some (l0 ++ [1])) else (none)) else (if l0.length < 140737488355328 then (some (l0 ++ [0])) else (none))) = some r := h
 clear h
 by_cases c3 : a1 = true
 ·
  subst c3
  rw [if_pos rfl] at H
  by_cases c4 : l0.length < 140737488355328
  rotate_left
  ·
   rw [if_neg c4] at H
   exact absurd H (by simp)
  rw [if_pos c4] at H
  have LMc4 := Aside0.mk c4
  clear c4
  obtain ⟨y132, hy132⟩ : ∃ y_ : List Int, y_ = (l0 ++ [1]) := ⟨_, rfl⟩
  replace H : (some y132) = some r := by first | (rw [hy132]; with_reducible exact H) | (have H2_ := (Option.bind_some _ _).symm.trans H; rw [hy132]; with_reducible exact H2_) | (have H2_ := (Option.bind_some _ _).symm.trans H; with_reducible exact H2_) | with_reducible exact H | (rw [hy132]; exact H) | exact H
  have Ny132 := Aside0.mk hy132
  clear hy132
  obtain rfl := Option.some.inj H
  go_enter Try.func35, Try.ntmps35
  go_wp2_with (first | ((with_reducible refine gate_builtin (b := .append) (xs := #[.tmp 6, .tmp 7]) rfl ?_); at_builtin; refine Kd.R_append (Kd.int .u8) (w0 := w0) w0.heap.size rfl (.tmp 6) (.tmp 7) 33 5 (.int .u8 0) 1 rfl Try.underlying33 info5 rfl (by decide) (by omega) u9000_ l0 1 [.int .u8 1] (fun k_ => (P0_ k_ ∨ w.heap.size ≤ k_)) (fun _ => False) rfl rfl ?aP (fun _ hk => hk.elim) ?aF ?aO ?aB ?aS ?aL ?_; (case aP => exact rfl); (case aB => exact (Sq.kl HB)); (case aF => exact (fun k_ hk => (.inr (Nat.le_trans (by first | exact HK.out.1 | exact (show Kept w _ (fun k_ => P0_ k_) from by repeat (first | (with_reducible first | exact HK.out | apply Kept.alloc | apply Kept.drewN | apply Kept.drew) | exact HK.out)).1) hk)))); (case aO => exact (kr HO0)); (case aS => exact (below_size (Sq.kl HB))); (case aL => have := LMc4.out; omega); intro v133 w5 ho hb hg hat; rw [← Ny132.out] at ho; replace HB := Aside0.mk (hb); replace HK := Aside0.mk (Kept.of_grown (S := (fun k_ => P0_ k_)) hg (by repeat (first | (with_reducible first | exact HK.out | apply Kept.alloc | apply Kept.drewN | apply Kept.drew) | exact HK.out)) (fun k_ e_ => (HO0.out.1 k_ e_))); have HO134 := Aside0.mk (ho); clear HO0; clear ho hb hg hat))
  go_ret
  exact ⟨_, by first | rfl | (simp [errW_none, errW_some] <;> rfl) | (simp [*, errW_none, errW_some] <;> rfl), by (with_reducible repeat (first | apply Kd.R_alloc | apply Kd.R_drewN | apply Kd.R_drew)); exact HO134.out, by repeat (first | (with_reducible first | exact HB.out | apply below_alloc | apply pw_below_drewN | apply below_drew1) | exact HB.out), by repeat (first | (with_reducible first | exact HK.out | apply Kept.alloc | apply Kept.drewN | apply Kept.drew) | exact HK.out)⟩
 replace c3 := Bool.eq_false_iff.mpr c3
 subst c3
 rw [if_neg (show ¬ (false = true) by decide)] at H
 by_cases c6 : l0.length < 140737488355328
 rotate_left
 ·
  rw [if_neg c6] at H
  exact absurd H (by simp)
 rw [if_pos c6] at H
 have LMc6 := Aside0.mk c6
 clear c6
 obtain ⟨y135, hy135⟩ : ∃ y_ : List Int, y_ = (l0 ++ [0]) := ⟨_, rfl⟩
 replace H : (some y135) = some r := by first | (rw [hy135]; with_reducible exact H) | (have H2_ := (Option.bind_some _ _).symm.trans H; rw [hy135]; with_reducible exact H2_) | (have H2_ := (Option.bind_some _ _).symm.trans H; with_reducible exact H2_) | with_reducible exact H | (rw [hy135]; exact H) | exact H
 have Ny135 := Aside0.mk hy135
 clear hy135
 obtain rfl := Option.some.inj H
 go_enter Try.func35, Try.ntmps35
 go_wp2_with (first | ((with_reducible refine gate_builtin (b := .append) (xs := #[.tmp 9, .tmp 10]) rfl ?_); at_builtin; refine Kd.R_append (Kd.int .u8) (w0 := w0) w0.heap.size rfl (.tmp 9) (.tmp 10) 33 5 (.int .u8 0) 1 rfl Try.underlying33 info5 rfl (by decide) (by omega) u9000_ l0 0 [.int .u8 0] (fun k_ => (P0_ k_ ∨ w.heap.size ≤ k_)) (fun _ => False) rfl rfl ?aP (fun _ hk => hk.elim) ?aF ?aO ?aB ?aS ?aL ?_; (case aP => exact rfl); (case aB => exact (Sq.kl HB)); (case aF => exact (fun k_ hk => (.inr (Nat.le_trans (by first | exact HK.out.1 | exact (show Kept w _ (fun k_ => P0_ k_) from by repeat (first | (with_reducible first | exact HK.out | apply Kept.alloc | apply Kept.drewN | apply Kept.drew) | exact HK.out)).1) hk)))); (case aO => exact (kr HO0)); (case aS => exact (below_size (Sq.kl HB))); (case aL => have := LMc6.out; omega); intro v136 w7 ho hb hg hat; rw [← Ny135.out] at ho; replace HB := Aside0.mk (hb); replace HK := Aside0.mk (Kept.of_grown (S := (fun k_ => P0_ k_)) hg (by repeat (first | (with_reducible first | exact HK.out | apply Kept.alloc | apply Kept.drewN | apply Kept.drew) | exact HK.out)) (fun k_ e_ => (HO0.out.1 k_ e_))); have HO137 := Aside0.mk (ho); clear HO0; clear ho hb hg hat))
 go_ret
 exact ⟨_, by first | rfl | (simp [errW_none, errW_some] <;> rfl) | (simp [*, errW_none, errW_some] <;> rfl), by (with_reducible repeat (first | apply Kd.R_alloc | apply Kd.R_drewN | apply Kd.R_drew)); exact HO137.out, by repeat (first | (with_reducible first | exact HB.out | apply below_alloc | apply pw_below_drewN | apply below_drew1) | exact HB.out), by repeat (first | (with_reducible first | exact HK.out | apply Kept.alloc | apply Kept.drewN | apply Kept.drew) | exact HK.out)⟩
end Go.Proofs.Ythobnoknbdljgaa.PR
end
section
namespace Go.Proofs.Ythobnoknbdljgaa
open Go.RowKit Hand PB0 Go.Proofs.YthobnoknbdljgaaW.PrintWords Oct
structure NmInv (st : NmS) (l : List ByteArray) : Prop where
 place : ∀ s p, st.2.1 s = some p → ∃ pre post : List UInt8, st.1 = pre ++ s.data.toList ++ 0 :: post ∧ pre.length = p
 at_ : ∀ i (h : i < l.length), ∃ p, st.2.1 l[i] = some p ∧ st.2.2[i]? = some ((p : Int) % 256)
 len : st.2.2.length = l.length
theorem nm_inv (l : List ByteArray) : NmInv (nmSt l) l := by
 induction l using rev_ind with
 | h0 => exact ⟨fun s p h => (by cases h), fun i h => absurd h (Nat.not_lt_zero i), rfl⟩
 | hs l s ih =>
  rw [nmSt_snoc]
  have fin : ∀ (st' : NmS) (p : Nat), st'.2.1 s = some p → (∀ t q, (nmSt l).2.1 t = some q → st'.2.1 t = some q) → st'.2.2 = (nmSt l).2.2 ++ [((p : Nat) : Int) % 256] →
    (∀ s p, st'.2.1 s = some p → ∃ pre post : List UInt8, st'.1 = pre ++ s.data.toList ++ 0 :: post ∧ pre.length = p) → NmInv st' (l ++ [s]) := by
   intro st' p h1 h2 h3 h4
   refine ⟨h4, ?_, by rw [h3, List.length_append, List.length_append, ih.len]; rfl⟩
   intro i hi
   rw [List.length_append] at hi
   by_cases hlt : i < l.length
   ·
    obtain ⟨q, hq, hat⟩ := ih.at_ i hlt
    refine ⟨q, ?_, ?_⟩
    ·
     rw [List.getElem_append_left hlt]
     exact h2 _ _ hq
    ·
     rw [h3, List.getElem?_append_left (by rw [ih.len]; exact hlt)]
     exact hat
   ·
    have e : i = l.length := by simp at hi; omega
    subst e
    refine ⟨p, ?_, ?_⟩
    ·
     rw [List.getElem_append_right (Nat.le_refl _)]
     simpa using h1
    ·
     rw [h3, List.getElem?_append_right (by rw [ih.len]; exact Nat.le_refl _), ih.len]
     simp
  unfold nmStep
  split
  ·
   rename_i p hp
   exact fin _ p hp (fun t q h => h) rfl ih.place
  ·
   rename_i hn
   refine fin _ (nmSt l).1.length (by dsimp only; rw [if_pos rfl]) ?_ rfl ?_
   ·
    intro t q h
    dsimp only
    rw [if_neg (fun e => by rw [e, hn] at h; cases h)]
    exact h
   ·
    intro t q h
    dsimp only at h ⊢
    by_cases e : t = s
    ·
     subst e
     rw [if_pos rfl] at h
     injection h with h
     subst h
     exact ⟨(nmSt l).1, [], by simp, rfl⟩
    ·
     rw [if_neg e] at h
     obtain ⟨pre, post, h1, h2⟩ := ih.place t q h
     exact ⟨pre, post ++ s.data.toList ++ [0], by rw [h1]; simp, h2⟩
theorem idx_none (l : List UInt8) (h : Lib.indexByte l 0 < 0) : ∀ x ∈ l, x ≠ 0 := by
 induction l with
 | nil => intro x hx; cases hx
 | cons b l ih =>
  intro x hx
  rw [Lib.indexByte] at h
  by_cases hb : (b == 0) = true
  ·
   rw [if_pos hb] at h
   exact absurd h (by decide)
  ·
   rw [if_neg hb] at h
   by_cases hc : (Lib.indexByte l 0 == -1) = true
   ·
    rcases List.mem_cons.1 hx with rfl | hx
    ·
     intro e; rw [e] at hb; exact hb rfl
    ·
     exact ih (by rw [eq_of_beq hc]; decide) x hx
   ·
    rw [if_neg hc] at h
    rcases List.mem_cons.1 hx with rfl | hx
    ·
     intro e; rw [e] at hb; exact hb rfl
    ·
     exact ih (by omega) x hx
end Go.Proofs.Ythobnoknbdljgaa
end
section
namespace Go.Proofs.Ythobnoknbdljgaa
open Go.RowKit Hand PB0 Go.Proofs.YthobnoknbdljgaaW.PrintWords
theorem nm_stay (l : List ByteArray) (a s : ByteArray) {p : Nat} (h : (nmSt l).2.1 s = some p) : (nmSt (l ++ [a])).2.1 s = some p := by
 rw [nmSt_snoc]
 unfold nmStep
 split
 ·
  exact h
 ·
  rename_i hn
  show (if s = a then some (nmSt l).1.length else (nmSt l).2.1 s) = some p
  by_cases e : s = a
  ·
   subst e
   rw [hn] at h
   cases h
  ·
   rw [if_neg e, h]
theorem nm_none (l : List ByteArray) : ∀ s, (nmSt l).2.1 s = none ↔ s ∉ l := by
 induction l using rev_ind with
 | h0 => exact fun s => ⟨fun _ h => (by cases h), fun _ => rfl⟩
 | hs l a ih =>
  intro s
  rw [nmSt_snoc]
  unfold nmStep
  rw [List.mem_append, List.mem_singleton, not_or, ← ih s]
  split
  ·
   rename_i p hp
   constructor
   ·
    exact fun h => ⟨h, fun e => by rw [← e] at hp; rw [h] at hp; cases hp⟩
   ·
    exact fun h => h.1
  ·
   rename_i hn
   show (if s = a then some (nmSt l).1.length else (nmSt l).2.1 s) = none ↔ _
   by_cases e : s = a
   ·
    rw [if_pos e]
    exact ⟨fun h => (by cases h), fun h => absurd e h.2⟩
   ·
    rw [if_neg e]
    exact ⟨fun h => ⟨h, e⟩, fun h => h.1⟩
instance memDec (s : ByteArray) (l : List ByteArray) : Decidable (s ∈ l) := decidable_of_iff (∃ t ∈ l, t = s) ⟨fun ⟨_, h, e⟩ => e ▸ h, fun h => ⟨s, h, rfl⟩⟩
theorem ba_toList_inj {x y : ByteArray} (h : x.toList = y.toList) : x = y := by
 rw [ByteArray.toList_eq, ByteArray.toList_eq] at h
 obtain ⟨⟨x⟩⟩ := x
 obtain ⟨⟨y⟩⟩ := y
 exact congrArg (fun l : List UInt8 => (⟨⟨l⟩⟩ : ByteArray)) h
def place (l : List ByteArray) (s : ByteArray) : Int := (((nmSt l).2.1 s).getD 0 : Nat)
theorem place_stay (l : List ByteArray) (a s : ByteArray) (h : s ∈ l) : place (l ++ [a]) s = place l s := by
 unfold place
 cases e : (nmSt l).2.1 s with
 | none => exact absurd h ((nm_none l s).1 e)
 | some p => rw [nm_stay l a s e]
def nbs (l : List ByteArray) : List Int := (nmSt l).1.map fun b => ((b.toNat : Nat) : Int)
theorem nbs_len (l : List ByteArray) : (nbs l).length = (nmSt l).1.length := List.length_map _
theorem place_nn (l : List ByteArray) (s : ByteArray) : 0 ≤ place l s := by unfold place; omega
theorem step_old (l : List ByteArray) (s : ByteArray) (h : s ∈ l) : nbs (l ++ [s]) = nbs l ∧ (l ++ [s]).map (place (l ++ [s])) = l.map (place l) ++ [place l s] := by
 have h2 : nbs (l ++ [s]) = nbs l := by
  unfold nbs
  rw [nmSt_snoc]
  unfold nmStep
  split
  ·
   rfl
  ·
   rename_i hn
   exact absurd h ((nm_none l s).1 hn)
 refine ⟨h2, ?_⟩
 rw [List.map_append, List.map_singleton, place_stay l s s h]
 congr 1
 exact List.map_congr_left fun x hx => place_stay l s x hx
theorem step_new (l : List ByteArray) (s : ByteArray) (h : s ∉ l) : nbs (l ++ [s]) = nbs l ++ bytesOf s ++ [0] ∧ (l ++ [s]).map (place (l ++ [s])) = l.map (place l) ++ [((nbs l).length : Int)] := by
 have hn := (nm_none l s).2 h
 have e : nmSt (l ++ [s]) = ((nmSt l).1 ++ s.data.toList ++ [0], fun t => if t = s then some (nmSt l).1.length else (nmSt l).2.1 t, (nmSt l).2.2 ++ [(((nmSt l).1.length : Nat) : Int) % 256]) := by
  rw [nmSt_snoc]
  unfold nmStep
  split
  ·
   rename_i p hp
   rw [hn] at hp
   cases hp
  ·
   rfl
 constructor
 ·
  unfold nbs
  rw [e]
  simp [bytesOf]
 ·
  rw [List.map_append, List.map_singleton]
  congr 1
  ·
   exact List.map_congr_left fun x hx => place_stay l s x hx
  ·
   unfold place
   rw [e]
   show [(((if s = s then some (nmSt l).1.length else (nmSt l).2.1 s).getD 0 : Nat) : Int)] = _
   rw [if_pos rfl, nbs_len]
   rfl
open PR
section
variable {K : List S56} {R : List Int × List Int}
theorem names_take (i : Nat) (hi : i < K.length) : names (K.take (i + 1)) = names (K.take i) ++ [K[i].f2] := by
 unfold names
 rw [List.take_succ_eq_append_getElem hi, List.map_append]
 rfl
theorem rdK (i : Nat) (hi : i < K.length) : rd_T56 K (i : Int) = K[i] := by
 unfold rd_T56
 simp [hi]
theorem names_end (hK : K.length ≤ 1000000) (_hs : nmSum (names K) ≤ 1000000) {i : Nat} (hi : i < K.length) (hb : (nbs (names (K.take i))).length + K[i].f2.size ≤ 2000000)
  (h : ∃ m, longcaseref06_Names.l0 m K (nbs (names (K.take (i + 1)))) ((names (K.take (i + 1))).map (place (names (K.take (i + 1))))) ((i + 1 : Nat) : Int) = some R) (j : Int) (x7 : Int)
  (hx : x7 = if K[i].f2 ∈ names (K.take i) then place (names (K.take i)) K[i].f2 else -1) :
  ∃ m, longcaseref06_Names.j2 m K (nbs (names (K.take i))) ((names (K.take i)).map (place (names (K.take i)))) i x7 j false = some R := by
 obtain ⟨m, h⟩ := h
 rw [names_take i hi] at h
 have hl : ((names (K.take i)).map (place (names (K.take i)))).length = i := by simp [names]; omega
 refine ⟨m + 1, ?_⟩
 rw [longcaseref06_Names.j2, if_neg (by decide)]
 have e : wrap64 ((i : Int) + 1) = ((i + 1 : Nat) : Int) := by rw [Hand.w64 (by omega) (by omega)]; omega
 by_cases hm : K[i].f2 ∈ names (K.take i)
 ·
  rw [if_pos hm] at hx
  have hn := place_nn (names (K.take i)) K[i].f2
  rw [if_neg (by omega), if_pos (by rw [hl]; omega), e, hx]
  obtain ⟨s1, s2⟩ := step_old _ _ hm
  rw [s1, s2] at h
  exact h
 ·
  rw [if_neg hm] at hx
  obtain ⟨s1, s2⟩ := step_new _ _ hm
  rw [s1, s2] at h
  rw [if_pos (by omega), if_pos (by omega), if_pos (by omega), rdK i hi, if_pos (by omega), Option.bind_some, if_pos (by rw [List.length_append, bytesOf_length]; omega), if_pos (by rw [hl]; omega), e]
  exact h
theorem names_in (hK : K.length ≤ 1000000) (hs : nmSum (names K) ≤ 1000000) {i : Nat} (hi : i < K.length) (hb : (nbs (names (K.take i))).length + K[i].f2.size ≤ 2000000)
  (h : ∃ m, longcaseref06_Names.l0 m K (nbs (names (K.take (i + 1)))) ((names (K.take (i + 1))).map (place (names (K.take (i + 1))))) ((i + 1 : Nat) : Int) = some R) (d : Nat) :
  ∀ j, j + d = i → ∀ x7 : Int, x7 = (if K[i].f2 ∈ (names (K.take i)).take j then place (names (K.take i)) K[i].f2 else -1) →
   ∃ m, longcaseref06_Names.l1 m K (nbs (names (K.take i))) ((names (K.take i)).map (place (names (K.take i)))) i x7 j = some R := by
 have hPl : (names (K.take i)).length = i := by simp [names]; omega
 induction d with
 | zero =>
  intro j hj x7 hx
  obtain rfl : j = i := by omega
  rw [List.take_of_length_le (by omega)] at hx
  obtain ⟨m, hm⟩ := names_end hK hs hi hb h (j : Int) x7 hx
  exact ⟨m + 1, by rw [longcaseref06_Names.l1, if_neg (by omega)]; exact hm⟩
 | succ d ih =>
  intro j hj x7 hx
  have hji : j < i := by omega
  have hget : (names (K.take i))[j]'(by omega) = K[j].f2 := by simp [names]
  have htk : (names (K.take i)).take (j + 1) = (names (K.take i)).take j ++ [K[j].f2] := by rw [List.take_succ_eq_append_getElem (by omega), hget]
  by_cases hm : K[i].f2 ∈ (names (K.take i)).take j
  ·
   rw [if_pos hm] at hx
   have hn := place_nn (names (K.take i)) K[i].f2
   obtain ⟨m, hm2⟩ := names_end hK hs hi hb h (j : Int) x7 (by rw [if_pos (List.mem_of_mem_take hm)]; exact hx)
   exact ⟨m + 1, by rw [longcaseref06_Names.l1, if_pos (by omega), decide_eq_false (by omega)]; exact hm2⟩
  rw [if_neg hm] at hx
  have e : wrap64 ((j : Int) + 1) = ((j + 1 : Nat) : Int) := by rw [Hand.w64 (by omega) (by omega)]; omega
  have hl : ((names (K.take i)).map (place (names (K.take i)))).length = i := by rw [List.length_map, hPl]
  by_cases he : K[j].f2 = K[i].f2
  rotate_left
  ·
   obtain ⟨m, hm2⟩ := ih (j + 1) (by omega) x7 (by rw [htk, if_neg (by rw [List.mem_append, List.mem_singleton]; exact fun q => q.elim hm (fun q => he q.symm))]; exact hx)
   refine ⟨m + 2, ?_⟩
   have hne : ¬ (K[j].f2.toList = K[i].f2.toList) := fun q => he (by
    have := ba_toList_inj q
    exact this)
   rw [longcaseref06_Names.l1, if_pos (by omega), decide_eq_true (show x7 < 0 by omega), longcaseref06_Names.j2, if_pos rfl, if_pos (by omega), if_pos (by omega), if_pos (by omega), if_pos (by omega), rdK i hi, rdK j (by omega), if_neg hne, e]
   exact hm2
  obtain ⟨m, hm2⟩ := ih (j + 1) (by omega) (place (names (K.take i)) K[i].f2) (by rw [htk, if_pos (by rw [List.mem_append, List.mem_singleton]; exact .inr he.symm)])
  refine ⟨m + 2, ?_⟩
  rw [longcaseref06_Names.l1, if_pos (by omega), decide_eq_true (show x7 < 0 by omega), longcaseref06_Names.j2, if_pos rfl, if_pos (by omega), if_pos (by omega), if_pos (by omega), if_pos (by omega), rdK i hi, rdK j (by omega), if_pos (by rw [he]), if_pos (by rw [hl]; omega), e]
  have hrd : rd ((names (K.take i)).map (place (names (K.take i)))) (j : Int) = place (names (K.take i)) K[i].f2 := by
   unfold rd
   rw [Int.toNat_natCast, List.getD_eq_getElem?_getD, List.getElem?_map, List.getElem?_eq_getElem (by omega), hget, he]
   rfl
  rw [hrd]
  exact hm2
theorem names_f (hK : K.length ≤ 1000000) (hs : nmSum (names K) ≤ 1000000) : ∃ k, longcaseref06_Names.f k K = some (nbs (names K), (names K).map (place (names K))) := by
 have key : ∀ d i, i + d = K.length → ∃ m, longcaseref06_Names.l0 m K (nbs (names (K.take i))) ((names (K.take i)).map (place (names (K.take i)))) (i : Int) = some (nbs (names K), (names K).map (place (names K))) := by
  intro d
  induction d with
  | zero =>
   intro i hi
   exact ⟨1, by rw [longcaseref06_Names.l0, if_neg (by omega), List.take_of_length_le (by omega)]⟩
  | succ d ih =>
   intro i hi
   have hlt : i < K.length := by omega
   have hsub : nmSum (names (K.take (i + 1))) ≤ nmSum (names K) := by
    have e : names K = names (K.take (i + 1)) ++ names (K.drop (i + 1)) := by unfold names; rw [← List.map_append, List.take_append_drop]
    rw [e]
    unfold nmSum
    rw [List.map_append, List.sum_append]
    omega
   rw [names_take i hlt, nmSum_snoc] at hsub
   have hb := (nmSt_len (names (K.take i))).1
   obtain ⟨m, hm⟩ := names_in hK hs hlt (by rw [nbs_len]; omega) (ih (i + 1) (by omega)) i 0 (by omega) (-1) (by rw [List.take_zero, if_neg (by simp)])
   exact ⟨m + 1, by rw [longcaseref06_Names.l0, if_pos (by omega)]; exact hm⟩
 obtain ⟨m, hm⟩ := key K.length 0 (by omega)
 exact ⟨m, hm⟩
end
end Go.Proofs.Ythobnoknbdljgaa
end
section
namespace Go.Proofs.Ythobnoknbdljgaa.Hand
open Go.RowKit Go.Proofs.YthobnoknbdljgaaW.PrintWords Go.Proofs.YthobnoknbdljgaaW.PrintLast Go.Proofs.YthobnoknbdljgaaW.PrintMore PB0
set_option linter.unusedVariables false
set_option linter.unusedSimpArgs false
section
variable {a1 a2 : Int} {K : List S56} {J : List S54} {L : List S67} {S U : List Bool}
theorem rb_size (h : ¬ (a1 = 4 ∨ a1 = 8)) : rightB a1 a2 K J L S U = false := by
 unfold rightB
 rw [show (decide (a1 = 4) || decide (a1 = 8)) = false by simpa using h]
 simp
theorem rb_cnt (h : ¬ (1 ≤ K.length ∧ K.length ≤ 256 ∧ (S.length = 0 ∨ S.length = K.length) ∧ (U.length = 0 ∨ U.length = K.length))) : rightB a1 a2 K J L S U = false := by
 unfold rightB kindedB cntB
 rw [decide_eq_false h]
 simp
theorem rb_jl (h : 5000 < J.length) : rightB a1 a2 K J L S U = false := by
 unfold rightB jumpedB
 rw [show decide ((J.length : Int) ≤ 5000) = false from decide_eq_false (by omega)]
 simp
theorem rb_ll (h : 5000 < L.length) : rightB a1 a2 K J L S U = false := by
 unfold rightB leapedB
 rw [show decide ((L.length : Int) ≤ 5000) = false from decide_eq_false (by omega)]
 simp
theorem rb_kind {k : Nat} (hk : k < K.length) (h : kokB K S U k = false) : rightB a1 a2 K J L S U = false := by
 unfold rightB kindedB
 rw [all_no _ hk h]
 simp
theorem rb_names (h : 256 < (nmSt (names K)).1.length) : rightB a1 a2 K J L S U = false := by
 unfold rightB kindedB
 rw [show decide ((nmSt (names K)).1.length ≤ 256) = false from decide_eq_false (by omega)]
 simp
theorem rb_true (h0 : a1 = 4 ∨ a1 = 8) (h1 : 1 ≤ K.length) (h2 : K.length ≤ 256) (h3 : S.length = 0 ∨ S.length = K.length) (h4 : U.length = 0 ∨ U.length = K.length) (hk : ∀ j, j < K.length → kokB K S U j = true) (hn : (nmSt (names K)).1.length ≤ 256)
  (hj : ∀ j, j < J.length → jokB (K.length : Int) a1 J j = true) (hjl : J.length ≤ 5000) (hl : ∀ j, j < L.length → lokB a2 a1 L j = true) (hll : L.length ≤ 5000) : rightB a1 a2 K J L S U = true := by
 unfold rightB kindedB cntB jumpedB leapedB
 have e1 : (decide (a1 = 4) || decide (a1 = 8)) = true := by simpa using h0
 have e2 : (List.range K.length).all (kokB K S U) = true := List.all_eq_true.2 fun j hj => hk j (List.mem_range.1 hj)
 have e3 : (List.range J.length).all (jokB (K.length : Int) a1 J) = true := List.all_eq_true.2 fun j h => hj j (List.mem_range.1 h)
 have e4 : (List.range L.length).all (lokB a2 a1 L) = true := List.all_eq_true.2 fun j h => hl j (List.mem_range.1 h)
 rw [e1, e2, e3, e4, decide_eq_true (show 1 ≤ K.length ∧ K.length ≤ 256 ∧ (S.length = 0 ∨ S.length = K.length) ∧ (U.length = 0 ∨ U.length = K.length) from ⟨h1, h2, h3, h4⟩), decide_eq_true hn, decide_eq_true (show (J.length : Int) ≤ 5000 by omega), decide_eq_true (show (L.length : Int) ≤ 5000 by omega)]
 rfl
theorem nm_long (l : List ByteArray) (s : ByteArray) (h : s ∈ l) : s.size + 1 ≤ (nmSt l).1.length := by
 obtain ⟨i, hi, rfl⟩ := List.getElem_of_mem h
 obtain ⟨p, h1, _⟩ := (nm_inv l).at_ i hi
 obtain ⟨pre, post, h2, _⟩ := (nm_inv l).place _ p h1
 rw [h2]
 have : l[i].data.toList.length = l[i].size := Array.length_toList
 simp only [List.length_append, List.length_cons, this]
 omega
theorem has_zero {s : ByteArray} (h : (0 : UInt8) ∈ s.data.toList) : hasZero s = true := by
 unfold hasZero
 refine decide_eq_true ?_
 rcases Int.lt_or_le (Lib.indexByte s.data.toList 0) 0 with h2 | h2
 ·
  exact absurd rfl (idx_none _ h2 0 h)
 ·
  exact h2
theorem no_zero {s : ByteArray} (h : ∀ b ∈ s.data.toList, b ≠ 0) : hasZero s = false := by
 unfold hasZero
 have key : ∀ l : List UInt8, (∀ b ∈ l, b ≠ 0) → Lib.indexByte l 0 = -1 := by
  intro l
  induction l with
  | nil => exact fun _ => rfl
  | cons b l ih =>
   intro h
   rw [Lib.indexByte, if_neg (by intro e; exact h b (List.mem_cons_self ..) (eq_of_beq e)), ih (fun x hx => h x (List.mem_cons_of_mem _ hx))]
   rfl
 rw [key _ h]
 decide
theorem no_more {s : ByteArray} {j : Nat} (h : ∀ b ∈ s.data.toList.take j, b ≠ 0) (hj : j < s.size) (hn : s[j] ≠ 0) : ∀ b ∈ s.data.toList.take (j + 1), b ≠ 0 := by
 intro b hb
 have hl : j < s.data.toList.length := by rw [Array.length_toList]; exact hj
 rw [List.take_succ_eq_append_getElem hl, List.mem_append, List.mem_singleton] at hb
 rcases hb with hb | rfl
 ·
  exact h b hb
 ·
  exact hn
theorem kok_zero {k : Nat} {s : ByteArray} (e : s = (rd_T56 K (k : Int)).f2) (h : (0 : UInt8) ∈ s.data.toList) : kokB K S U k = false := by
 unfold kokB
 rw [← e, has_zero h]
 simp
theorem rb_long {k : Nat} (hk : k < K.length) (h : 255 < (rd_T56 K (k : Int)).f2.size) : rightB a1 a2 K J L S U = false := by
 have e : rd_T56 K (k : Int) = K[k] := by unfold rd_T56; simp [hk]
 have := nm_long (names K) K[k].f2 (by unfold names; exact List.mem_map.2 ⟨K[k], List.getElem_mem hk, rfl⟩)
 rw [e] at h
 exact rb_names (by omega)
theorem rb_jump {k : Nat} (hk : k < J.length) (h : jokB (K.length : Int) a1 J k = false) : rightB a1 a2 K J L S U = false := by
 unfold rightB jumpedB
 rw [all_no _ hk h]
 simp
theorem rb_leap {k : Nat} (hk : k < L.length) (h : lokB a2 a1 L k = false) : rightB a1 a2 K J L S U = false := by
 unfold rightB leapedB
 rw [all_no _ hk h]
 simp
end
theorem rr_marks (A : Option Addr) (c n : Nat) (l : List Bool) (w : World) (hl : l.length ≤ 1000000) (hn : n ≤ 1000000) (r : Bool) (hr_ : decide (l.length = 0 ∨ l.length = n) = r) :
  Calls Try.prog 23 #[.slice A l.length c, .int .i64 n] w fun e w' => e = .returned (.bool r) ∧ Below w.heap.size w w' := by
 have hr := Aside0.mk hr_
 clear hr_
 go_enter Try.func23, Try.ntmps23
 by_cases h0 : l.length = 0
 ·
  have d0 : ((l.length : Int) == 0) = true := by simpa using h0
  go_wp2
  go_ret
  exact ⟨by rw [← hr.out, decide_eq_true (.inl h0)]; rfl, Below.refl _ _⟩
 ·
  have d0 : ((l.length : Int) == 0) = false := by simpa using h0
  by_cases h1 : l.length = n
  ·
   have d1 : ((l.length : Int) == (n : Int)) = true := beq_iff_eq.2 (by omega)
   go_wp2
   go_ret
   exact ⟨by rw [← hr.out, decide_eq_true (.inr h1)]; rfl, Below.refl _ _⟩
  ·
   have d1 : ((l.length : Int) == (n : Int)) = false := beq_eq_false_iff_ne.2 (by omega)
   go_wp2
   go_ret
   exact ⟨by rw [← hr.out, decide_eq_false (by omega)]; rfl, Below.refl _ _⟩
theorem st1 {c v : Int} (h1 : -9223372036854775808 ≤ c ∧ c ≤ 9223372036854775807) (h2 : -9223372036854775808 ≤ v ∧ v ≤ 9223372036854775807) : (c == wrap64 (v + 1)) = (wrap64 (c - v) == 1) := by
 rw [Bool.eq_iff_iff, beq_iff_eq, beq_iff_eq]
 unfold wrap64
 omega
theorem st2 {c v : Int} (h1 : -9223372036854775808 ≤ c ∧ c ≤ 9223372036854775807) (h2 : -9223372036854775808 ≤ v ∧ v ≤ 9223372036854775807) : (c == wrap64 (v - 1)) = (wrap64 (c - v) == -1) := by
 rw [Bool.eq_iff_iff, beq_iff_eq, beq_iff_eq]
 unfold wrap64
 omega
theorem st0 {c v : Int} (h1 : -9223372036854775808 ≤ c ∧ c ≤ 9223372036854775807) (h2 : -9223372036854775808 ≤ v ∧ v ≤ 9223372036854775807) : (c == v) = (wrap64 (c - v) == 0) := by
 rw [Bool.eq_iff_iff, beq_iff_eq, beq_iff_eq]
 unfold wrap64
 omega
theorem rr_names (A : Option Addr) (c : Nat) (K : List S56) (w : World) (h : Kd.C k56 w A K.length K) (hc : K.length ≤ c) (h1 : K.length ≤ 1000000) (h2 : nmSum (names K) ≤ 1000000) :
  Calls Try.prog 24 #[.slice A K.length c] w fun e w' => ∃ A1 c1 v1, e = .returned (.tuple #[.slice A1 (nmSt (names K)).1.length c1, v1]) ∧ Below w.heap.size w w' := by
 obtain ⟨k, hk⟩ := names_f h1 h2
 refine (PR.longcaseref06_Names.calls k A c K _ _ w h hc hk).mono ?_
 rintro e w' ⟨v0, v1, rfl, ho0, _, hb⟩
 obtain ⟨A1, c1, rfl⟩ := Kd.R_slice ho0
 exact ⟨A1, c1, v1, by rw [nbs_len], hb⟩
theorem fits8 (n : Int) : fitsB n 8 = true := by unfold fitsB; rw [if_neg (by decide)]
theorem fits4 (n : Int) : fitsB n 4 = (decide (-2147483648 ≤ n) && decide (n ≤ 2147483647)) := by
 unfold fitsB
 rw [if_pos rfl]
 have e : wrap32 n = (n + 2147483648) % 4294967296 - 2147483648 := by
  unfold wrap32
  omega
 rw [w64 (by omega) (by omega), e]
 by_cases h : -2147483648 ≤ n ∧ n ≤ 2147483647
 ·
  rw [decide_eq_true h.1, decide_eq_true h.2]
  exact beq_iff_eq.2 (by omega)
 ·
  have : ¬ (n = (n + 2147483648) % 4294967296 - 2147483648) := by omega
  rw [beq_eq_false_iff_ne.2 this]
  simp
  omega
theorem rr_fits (n a : Int) (ha : a = 4 ∨ a = 8) (w : World) (m : Nat) : Calls Try.prog 25 #[.int .i64 n, .int .i64 a] (w.drewN m) fun e w'' => e = .returned (.bool (fitsB n a)) ∧ ∃ j, w'' = w.drewN j := by
 go_enter Try.func25, Try.ntmps25
 rcases ha with rfl | rfl
 ·
  by_cases h1 : -2147483648 ≤ n
  ·
   have d1 : decide (-2147483648 ≤ n) = true := decide_eq_true h1
   by_cases h2 : n ≤ 2147483647
   ·
    have d2 : decide (n ≤ 2147483647) = true := decide_eq_true h2
    go_wp2
    go_ret
    exact ⟨by rw [fits4, d1, d2]; rfl, m, rfl⟩
   ·
    have d2 : decide (n ≤ 2147483647) = false := decide_eq_false h2
    go_wp2
    go_ret
    exact ⟨by rw [fits4, d1, d2]; rfl, m, rfl⟩
  ·
   have d1 : decide (-2147483648 ≤ n) = false := decide_eq_false h1
   go_wp2
   go_ret
   exact ⟨by rw [fits4, d1]; rfl, m, rfl⟩
 ·
  go_wp2
  go_ret
  exact ⟨by rw [fits8]; rfl, m, rfl⟩
def longcaseref06_Right.T24 : Bool × List (List Nat × List Nat) := (true, [([], []), ([0], [0]), ([1], [1]), ([2], [2]), ([3, 2], [2, 3]), ([2], [2]), ([5, 2], [2, 5]), ([2], [2]), ([7, 2], [2, 7]), ([6, 8, 2], [2, 6, 8]), ([9, 2], [2, 9]), ([10, 2], [2, 10]), ([4, 11, 2], [2, 4, 11]), ([2, 12], [2, 12]), ([13, 2], [13]), ([14], [14]), ([15, 14], [14, 15]), ([16, 14], [14, 16]), ([14, 17], [14, 17]), ([18, 14], [18]), ([19], [19]), ([20, 19], [19, 20]), ([19], [19]), ([21, 22, 19], [19, 21, 22]), ([19, 23], [19, 23]), ([24, 19], [24]), ([25], [25]), ([26, 25], [25, 26]), ([25], [25]), ([27, 28, 25, 25], [25, 27, 28]), ([29, 25], [25, 29]), ([25, 30], [25, 30])])
def longcaseref06_Right.B24 : List Nat := [0, 1, 3, 7, 15, 7, 39, 7, 135, 487, 999, 2023, 4095, 8191, 16383, 32767, 65535, 131071, 262143, 524287, 1048575, 2097151, 1048575, 8388607, 16777215, 33554431, 67108863, 134217727, 67108863, 536870911, 1073741823, 2147483647]
theorem longcaseref06_Right.tab24 : rtab .any (opsOf Try.f13 24) = longcaseref06_Right.T24 := by kernel_rfl
theorem longcaseref06_Right.bits24 : waitsOk longcaseref06_Right.T24.2 longcaseref06_Right.B24 = true := by kernel_rfl
def longcaseref06_Right.T33 : Bool × List (List Nat × List Nat) := (true, [([], []), ([0], [0]), ([1], [1]), ([2], [2]), ([3, 2], [2, 3]), ([4, 2], [2, 4]), ([2, 5], [2, 5]), ([6, 2], [6]), ([7], [7]), ([8, 7], [7, 8]), ([9, 7, 7], [7, 9]), ([10], [10]), ([11, 10], [10, 11]), ([10], [10]), ([13, 10], [10, 13]), ([10], [10]), ([15, 10], [10, 15]), ([14, 16, 10], [10, 14, 16]), ([17, 10], [10, 17]), ([18, 10], [10, 18]), ([12, 19, 10], [10, 12, 19]), ([10, 20, 7], [7, 10, 20]), ([7, 21], [7, 21]), ([22, 10], [22]), ([23], [23]), ([24, 23], [23, 24]), ([25, 23, 23], [23, 25]), ([26], [26]), ([27, 26], [26, 27]), ([26, 28, 23], [23, 26, 28]), ([23, 29], [23, 29]), ([30, 26], [30]), ([31], [31]), ([32, 31], [31, 32]), ([31], [31]), ([33, 34, 31, 31], [31, 33, 34]), ([35, 31], [31, 35]), ([31, 36], [31, 36])])
def longcaseref06_Right.B33 : List Nat := [0, 1, 3, 7, 15, 31, 63, 127, 255, 511, 1023, 2047, 4095, 2047, 10239, 2047, 34815, 124927, 255999, 518143, 1048575, 2097151, 4194303, 8388607, 16777215, 33554431, 67108863, 134217727, 268435455, 536870911, 1073741823, 2147483647, 4294967295, 8589934591, 4294967295, 34359738367, 68719476735, 137438953471]
theorem longcaseref06_Right.tab33 : rtab .any (opsOf Try.f13 33) = longcaseref06_Right.T33 := by kernel_rfl
theorem longcaseref06_Right.bits33 : waitsOk longcaseref06_Right.T33.2 longcaseref06_Right.B33 = true := by kernel_rfl
section
variable {P : Program} {ops : Array Oper} {Q : Exit → Act → World → Prop} {md : Region.Mode} {S : World → Prop} {ds : List Nat} {T : Bool × List (List Nat × List Nat)}
theorem no_ (i : Nat) (N : Option Tmp) (l' : Array Bool) {oi : Oper} {fuel : Nat} {l : Array Bool} {a a' : Act} {w : World} (hT : Aside0 (rtab md ops = T)) (h : wpAnyLast P md ops Q S ds fuel l' a' w)
  (hi : ops[i]? = some oi := by rfl) (hN : oi.dst = N := by rfl) (hc : anyT T l.toList l'.toList i = true := by kernel_rfl) (hQ : ∀ c a w, Q (.panic c) (a.put oi.dst undef) w → Q (.panic c) a w := by exact fun _ _ _ h => h)
  (hw : Region.wanted oi (yielded ops a.tmps) = false := by rfl)
  (ha : a.put N undef = a' := by simp only [Act.put, List.setIfInBounds_toArray, List.set_cons_zero, List.set_cons_succ, i64_w, i32_w]; rfl) : wpAnyLast P md ops Q S ds (fuel + 1) l a w :=
 pure_ l' hi hN (any_of hT.out hc) hQ (Or.inr ⟨hw, rfl⟩) ha h
end
end Go.Proofs.Ythobnoknbdljgaa.Hand
end
