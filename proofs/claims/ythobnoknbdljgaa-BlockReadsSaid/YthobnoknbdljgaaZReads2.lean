/- What the claim needs of its texts, one behind the other (laid by a program of the session's). -/
import Derived.Test.YthobnoknbdljgaaZReads1
import Derived.Deep.LoopGhost
import Derived.Deep.DeepCutAuto
import Derived.Test.YthobnoknbdljgaaProg
import Derived.WalkKit
import Derived.WalkSpells
import Derived.Below
import Derived.Outline
import Derived.Lib.Hide
import Derived.BigQuiet
import Derived.Deep.QuietTactic
import Derived.Deep.RegionWith
import Derived.Lib.BytesEntry
import Derived.Laws.Slices
import Derived.Laws.BitsLemmas
import Derived.Laws.BitsAllLaws
import Derived.OpenShut
import Derived.Deep.Draws
import Derived.Deep.AppendLies
import Derived.Maps.AppendAt
import Derived.OwnWalk
import Derived.Laws.BytesArg
import Derived.Laws.MakeOwn
import Derived.Laws.OwnMore
import Derived.Deep.OwnRows
import Derived.Tactics
import Derived.Lib.ConvBytes
import Derived.KernelRfl
import Derived.RowKit3
import Derived.WideLaws
import Derived.Deep.CutBlock
import Derived.Deep.RegionHeld3
import Derived.Laws.Rows
import Derived.Lib.AppendStr
import Derived.ArgAppend
import Derived.Laws.IdiomCopy
import Derived.OrdersHeld
import Derived.RowKit
section
namespace Go.Proofs.Ythobnoknbdljgaa.Hand
open Go.RowKit Go.Proofs.YthobnoknbdljgaaW.PrintWords Go.Proofs.YthobnoknbdljgaaW.PrintLast Go.Proofs.YthobnoknbdljgaaW.PrintMore PB0
set_option linter.unusedVariables false
set_option linter.unusedSimpArgs false
def wasL (l : List S67) (k : Nat) : Int × Int := if k = 0 then (-1, 0) else ((rd_T67 l ((k - 1 : Nat) : Int)).f0, (rd_T67 l ((k - 1 : Nat) : Int)).f1)
def stepL (l : List S67) (k : Nat) : Int := wrap64 ((rd_T67 l k).f1 - (wasL l k).2)
def lastL (version : Int) (l : List S67) (k : Nat) : Bool := (version == 4) && decide (0 < k) && ((k : Int) == wrap64 ((l.length : Int) - 1)) && (stepL l k == 0)
def lokB (version size : Int) (l : List S67) (k : Nat) : Bool :=
 !decide ((rd_T67 l k).f0 ≤ (wasL l k).1) && ((stepL l k == 1) || (stepL l k == -1) || lastL version l k) && fitsB (rd_T67 l k).f0 size
def leapedB (size version : Int) (l : List S67) : Bool := (List.range l.length).all (lokB version size l) && decide ((l.length : Int) ≤ 5000)
def block_Block_leaped.f (l0_0 : List S56) (l0_1 : List S54) (l0_2 : List S67) (l0_3 : List Bool) (l0_4 : List Bool) (a1 a2 : Int) : Option Bool :=
 if l0_2.length ≤ 1000000 then some (leapedB a1 a2 l0_2) else none
set_option maxHeartbeats 4000000 in
set_option maxRecDepth 100000 in
theorem block_Block_leaped.calls (A0_0 : Option Addr) (c0_0 : Nat) (l0_0 : List S56) (A0_1 : Option Addr) (c0_1 : Nat) (l0_1 : List S54) (A0_2 : Option Addr) (c0_2 : Nat) (l0_2 : List S67) (A0_3 : Option Addr) (c0_3 : Nat) (l0_3 : List Bool) (A0_4 : Option Addr) (c0_4 : Nat) (l0_4 : List Bool) (a1 a2 : Int) (r : Bool) (w : World) (hr0_0 : Kd.C k56 w A0_0 l0_0.length l0_0) (hc0_0 : l0_0.length ≤ c0_0) (hr0_1 : Kd.C k54 w A0_1 l0_1.length l0_1) (hc0_1 : l0_1.length ≤ c0_1) (hr0_2 : Kd.C k67 w A0_2 l0_2.length l0_2) (hc0_2 : l0_2.length ≤ c0_2) (hr0_3 : Kd.C Kd.bool w A0_3 l0_3.length l0_3) (hc0_3 : l0_3.length ≤ c0_3) (hr0_4 : Kd.C Kd.bool w A0_4 l0_4.length l0_4) (hc0_4 : l0_4.length ≤ c0_4) (h : block_Block_leaped.f l0_0 l0_1 l0_2 l0_3 l0_4 a1 a2 = some r) :
  Calls Try.prog 32 #[.agg #[.slice A0_0 l0_0.length c0_0, .slice A0_1 l0_1.length c0_1, .slice A0_2 l0_2.length c0_2, .slice A0_3 l0_3.length c0_3, .slice A0_4 l0_4.length c0_4], .int .i64 a1, .int .i64 a2] w fun e w' => e = .returned (.bool r) ∧ Below w.heap.size w w' := by
 obtain ⟨hlen, hr⟩ : l0_2.length ≤ 1000000 ∧ leapedB a1 a2 l0_2 = r := by
  unfold block_Block_leaped.f at h
  split at h
  rotate_left
  ·
   cases h
  rename_i hh
  exact ⟨hh, Option.some.inj h⟩
 have HR0 := Aside0.mk hr0_2
 have HRES := Aside0.mk hr
 clear h hr hr0_0 hc0_0 hr0_1 hc0_1 hr0_2 hc0_2 hr0_3 hc0_3 hr0_4 hc0_4
 have hu27 := Try.underlying27
 have hu67 := Try.underlying67
 have HB := Aside0.mk (Below.refl w.heap.size w)
 go_enter Try.func32, Try.ntmps32
 go_upto_region 2 with (first
  | ((with_reducible refine gate_dst (N := 3) rfl ?_); refine box_event ?hg (N := 3) ?hd (cs := #[.slice A0_0 l0_0.length c0_0, .slice A0_1 l0_1.length c0_1, .slice A0_2 l0_2.length c0_2, .slice A0_3 l0_3.length c0_3, .slice A0_4 l0_4.length c0_4]) (t := 27) ?hr ?_; (case hd => rfl); (case hg => rfl); (case hr => first | (go_simp; done) | (go_simp; rfl)); intro g3 hg w1 hbox hb; have Bg3 := Aside0.mk hbox; have GEg3 := Aside0.mk (show w.heap.size ≤ g3 by first | omega | (have h_ := below_size HB.out; omega)); clear hbox hg; have n0_ := Aside0.mk (below_step HB.out hb); clear HB; have HB := n0_; clear n0_ hb; obtain ⟨s0, s1, s2, s3, s4⟩ := Sq.c5 Bg3)
  | ((with_reducible refine gate_dst (N := 7) rfl ?_); refine box_event ?hg (N := 7) ?hd (cs := #[.int .i64 0, .int .i64 0]) (t := 67) ?hr ?_; (case hd => rfl); (case hg => rfl); (case hr => first | (go_simp; done) | (go_simp; rfl)); intro g7 hg w2 hbox hb; have Bg7 := Aside0.mk hbox; have GEg7 := Aside0.mk (show w1.heap.size ≤ g7 by first | omega | (have h_ := below_size HB.out; omega)); clear hbox hg; have N37 := Aside0.mk (show g3 ≠ g7 by have h_ := blk_lt Bg3.out; have h2_ := GEg7.out; omega); have GW7 := Aside0.mk (show w.heap.size ≤ g7 by have h_ := HB.out.size; have h2_ := GEg7.out; omega); have n0_ := Aside0.mk (blk_below Bg3.out hb); have n1_ := Aside0.mk (below_step HB.out hb); clear Bg3 HB; have Bg3 := n0_; have HB := n1_; clear n0_ n1_ hb; obtain ⟨z0, z1⟩ := Sq.c2 Bg7; have y0 := blk_frozen Bg7.out 0; have y1 := blk_frozen Bg7.out 1))
 refine forget_wp (fun wc => Aside0 (wc.heap[g3]? = some (.cells #[.slice A0_0 l0_0.length c0_0, .slice A0_1 l0_1.length c0_1, .slice A0_2 l0_2.length c0_2, .slice A0_3 l0_3.length c0_3, .slice A0_4 l0_4.length c0_4] 27 (0, 0))) ∧ Aside0 (wc.heap[g7]? = some (.cells #[.int .i64 (-1), .int .i64 0] 67 (0, 0))) ∧ Aside0 (Below w.heap.size w wc)) ⟨⟨blk_far (blk_far Bg3.out N37.out _) N37.out _⟩, ⟨(blk_set (blk_set Bg7.out 0 _) 1 _).trans rfl⟩, ⟨below_set (below_set HB.out GW7.out) GW7.out⟩⟩ ?_
 clear Bg3 Bg7 HB z0 z1 y0 y1 s0 s1 s2 s3 s4
 rintro w3 ⟨B3, B7, HB⟩
 have s2 : w3.cell? ⟨g3, 2, none⟩ = some (.slice A0_2 l0_2.length c0_2) := (blk_cell B3.out 2).trans rfl
 go_wp2
 go_loopg [16] l0_2.length (fun q i wr => ∃ k : Nat, k + q = l0_2.length ∧ i = .int .i64 k ∧ Aside0 ((List.range k).all (lokB a2 a1 l0_2) = true) ∧ Aside0 (wr.heap[g3]? = some (.cells #[.slice A0_0 l0_0.length c0_0, .slice A0_1 l0_1.length c0_1, .slice A0_2 l0_2.length c0_2, .slice A0_3 l0_3.length c0_3, .slice A0_4 l0_4.length c0_4] 27 (0, 0))) ∧ Aside0 (wr.heap[g7]? = some (.cells #[.int .i64 (wasL l0_2 k).1, .int .i64 (wasL l0_2 k).2] 67 (0, 0))) ∧ Aside0 (Below w.heap.size w wr))
 case atStart => exact ⟨0, by omega, rfl, ⟨rfl⟩, B3, B7, HB⟩
 clear B3 B7 HB s2
 obtain ⟨k, hk, rfl, HA, B3, B7, HB⟩ := hrel
 by_cases hlt : k < l0_2.length
 rotate_left
 ·
  have hkl : k = l0_2.length := by omega
  subst hkl
  have cl : decide ((l0_2.length : Int) < (l0_2.length : Int)) = false := decide_eq_false (by omega)
  have s2 : wr.cell? ⟨g3, 2, none⟩ = some (.slice A0_2 l0_2.length c0_2) := (blk_cell B3.out 2).trans rfl
  clear hk hlt
  go_wp2
  go_ret
  exact ⟨by rw [← HRES.out, leapedB, HA.out]; rfl, HB.out⟩
 have cl : decide ((k : Int) < (l0_2.length : Int)) = true := decide_eq_true (by omega)
 have ck0 : decide (0 ≤ (k : Int)) = true := decide_eq_true (by omega)
 obtain ⟨ad, eA, hx0, hx1⟩ := at_T67 HR0.out (k : Int) (by omega) (by omega)
 subst eA
 replace hx0 := (HB.out.cell (World.block_lt_of_cell? w _ hx0)).trans hx0
 replace hx1 := (HB.out.cell (World.block_lt_of_cell? w _ hx1)).trans hx1
 simp only [Int.toNat_natCast] at hx0 hx1
 go_upto_region 5 with ((with_reducible refine gate_dst (N := 9) rfl ?_); refine box_event ?hg (N := 9) ?hd (cs := #[.int .i64 0, .int .i64 0]) (t := 67) ?hr ?_; (case hd => rfl); (case hg => rfl); (case hr => first | (go_simp; done) | (go_simp; rfl)); intro g9 hg w8 hbox hb; have Bg9 := Aside0.mk hbox; have GEg9 := Aside0.mk (show wr.heap.size ≤ g9 by first | omega | (have h_ := below_size HB.out; omega)); clear hbox hg; have HW8 := Aside0.mk hb; clear hb; obtain ⟨z0, z1⟩ := Sq.c2 Bg9; have y0 := blk_frozen Bg9.out 0; have y1 := blk_frozen Bg9.out 1)
 have n39 : g3 ≠ g9 := by have := blk_lt B3.out; have := GEg9.out; omega
 have n79 : g7 ≠ g9 := by have := blk_lt B7.out; have := GEg9.out; omega
 have N79 := Aside0.mk n79
 obtain ⟨At, hAt⟩ : ∃ a, a = (rd_T67 l0_2 (k : Int)).f0 := ⟨_, rfl⟩
 obtain ⟨Co, hCo⟩ : ∃ a, a = (rd_T67 l0_2 (k : Int)).f1 := ⟨_, rfl⟩
 rw [← hAt, ← hCo]
 have GB9 : Aside0 (w.heap.size ≤ g9) := ⟨by have := HB.out.size; have := GEg9.out; omega⟩
 obtain ⟨Wa, hWa⟩ : ∃ a, a = (wasL l0_2 k).1 := ⟨_, rfl⟩
 obtain ⟨Wc, hWc⟩ : ∃ a, a = (wasL l0_2 k).2 := ⟨_, rfl⟩
 rw [← hWa, ← hWc] at B7
 refine forget_wp (fun wc => Aside0 (wc.heap[g3]? = some (.cells #[.slice A0_0 l0_0.length c0_0, .slice A0_1 l0_1.length c0_1, .slice (some ad) l0_2.length c0_2, .slice A0_3 l0_3.length c0_3, .slice A0_4 l0_4.length c0_4] 27 (0, 0))) ∧ Aside0 (wc.heap[g7]? = some (.cells #[.int .i64 Wa, .int .i64 Wc] 67 (0, 0))) ∧ Aside0 (wc.heap[g9]? = some (.cells #[.int .i64 At, .int .i64 Co] 67 (0, 0))) ∧ Aside0 (Below w.heap.size w wc)) ⟨⟨blk_far (blk_far (blk_below B3.out HW8.out) n39 _) n39 _⟩, ⟨blk_far (blk_far (blk_below B7.out HW8.out) n79 _) n79 _⟩, ⟨(blk_set (blk_set Bg9.out 0 _) 1 _).trans rfl⟩, ⟨below_set (below_set (below_step HB.out HW8.out) GB9.out) GB9.out⟩⟩ ?_
 have hst : stepL l0_2 k = wrap64 (Co - Wc) := by unfold stepL; rw [← hCo, ← hWc]
 have hlast : lastL a2 l0_2 k = ((a2 == 4) && decide (0 < k) && ((k : Int) == wrap64 ((l0_2.length : Int) - 1)) && (wrap64 (Co - Wc) == 0)) := by unfold lastL; rw [hst]
 have HOK := Aside0.mk (show lokB a2 a1 l0_2 k = (!decide (At ≤ Wa) && ((wrap64 (Co - Wc) == 1) || (wrap64 (Co - Wc) == -1) || lastL a2 l0_2 k) && fitsB At a1) by unfold lokB; rw [hst, ← hAt, ← hWa])
 have hwn : wasL l0_2 (k + 1) = (At, Co) := by unfold wasL; rw [if_neg (Nat.succ_ne_zero k), Nat.add_sub_cancel, ← hAt, ← hCo]
 have HWN1 := Aside0.mk (show (wasL l0_2 (k + 1)).1 = At by rw [hwn])
 have HWN2 := Aside0.mk (show (wasL l0_2 (k + 1)).2 = Co by rw [hwn])
 obtain ⟨St, hSt⟩ : ∃ a, a = wrap64 (Co - Wc) := ⟨_, rfl⟩
 obtain ⟨La, hLa⟩ : ∃ a, a = lastL a2 l0_2 k := ⟨_, rfl⟩
 rw [← hSt, ← hLa] at HOK
 rw [← hSt, ← hLa] at hlast
 have HST := Aside0.mk hSt
 have HLA := Aside0.mk hlast
 clear Bg9 B3 B7 HB HW8 GEg9 z0 z1 y0 y1 hx0 hx1 hAt hCo n39 n79 hWa hWc hst hlast hwn hSt hLa
 rintro w9 ⟨B3, B7, B9, HB⟩
 have s2 : w9.cell? ⟨g3, 2, none⟩ = some (.slice (some ad) l0_2.length c0_2) := (blk_cell B3.out 2).trans rfl
 obtain ⟨x0, x1⟩ := Sq.c2 B7
 obtain ⟨z0, z1⟩ := Sq.c2 B9
 have y0 := blk_frozen B7.out 0; have y1 := blk_frozen B7.out 1
 go_upto_region 6 with (fail)
 rw [← HST.out]
 go_cut [11] (fun v11 wc => v11 = .bool La ∧ wc = w9)
 case first =>
  have HLA2 := HLA.out
  rw [w64 (n := (l0_2.length : Int) - 1) (by omega) (by omega)] at HLA2
  clear HLA
  rcases (show ((a2 == 4) = false) ∨ ((a2 == 4) = true ∧ decide (0 < k) = false) ∨ ((a2 == 4) = true ∧ decide (0 < k) = true ∧ ((k : Int) == (l0_2.length : Int) - 1) = false) ∨ ((a2 == 4) = true ∧ decide (0 < k) = true ∧ ((k : Int) == (l0_2.length : Int) - 1) = true ∧ (St == 0) = false) ∨ ((a2 == 4) = true ∧ decide (0 < k) = true ∧ ((k : Int) == (l0_2.length : Int) - 1) = true ∧ (St == 0) = true) by cases (a2 == 4) <;> cases decide (0 < k) <;> cases ((k : Int) == (l0_2.length : Int) - 1) <;> cases (St == 0) <;> simp) with e0 | ⟨e0, e1⟩ | ⟨e0, e1, e2⟩ | ⟨e0, e1, e2, e3⟩ | ⟨e0, e1, e2, e3⟩
  all_goals
   rw [e0] at HLA2
   try rw [e1] at HLA2
   try rw [e2] at HLA2
   try rw [e3] at HLA2
   simp only [Bool.and_false, Bool.false_and, Bool.true_and, Bool.and_self] at HLA2
   go_wp2
   try rw [show ((l0_2.length : Int) - 1) = (k : Int) by have e2' := beq_iff_eq.mp e2; omega]
   go_meet
   exact ⟨by rw [HLA2], rfl⟩
 obtain ⟨rfl, rfl⟩ := hcut
 by_cases c1 : At ≤ Wa
 ·
  have d1 : decide (At ≤ Wa) = true := decide_eq_true c1
  clear c1
  have hjk : lokB a2 a1 l0_2 k = false := by rw [HOK.out, d1]; simp
  go_wp2_with (first | (go_at_call 52; (with_reducible refine (block_fits.calls At a1 _ _ (fits_f At a1)).mono ?_); rintro e w10 ⟨rfl, hd⟩; obtain ⟨nd, rfl⟩ := hd.out))
  go_ret
  exact ⟨by rw [← HRES.out, leapedB, all_no _ hlt hjk]; rfl, HB.out⟩
 have d1 : decide (At ≤ Wa) = false := decide_eq_false c1
 clear c1
 by_cases c2 : St = 1
 ·
  have d2 : (St == 1) = true := beq_iff_eq.mpr c2
  have d2n : (St != 1) = false := bne_eq_false_iff_eq.mpr c2
  cases c5 : fitsB At a1
  ·
   have hjk : lokB a2 a1 l0_2 k = false := by rw [HOK.out, d1, d2, c5]; simp
   go_wp2_with (first | (go_at_call 52; (with_reducible refine (block_fits.calls At a1 _ _ (fits_f At a1)).mono ?_); rintro e w10 ⟨rfl, hd⟩; obtain ⟨nd, rfl⟩ := hd.out))
   go_ret
   exact ⟨by rw [← HRES.out, leapedB, all_no _ hlt hjk]; rfl, pw_below_drewN HB.out _⟩
  have hjk : lokB a2 a1 l0_2 k = true := by rw [HOK.out, d1, d2, c5]; simp
  go_upto_region 10 with (first | (go_at_call 52; (with_reducible refine (block_fits.calls At a1 _ _ (fits_f At a1)).mono ?_); rintro e w10 ⟨rfl, hd⟩; obtain ⟨nd, rfl⟩ := hd.out))
  refine forget_wp (fun wc => Aside0 (wc.heap[g3]? = some (.cells #[.slice A0_0 l0_0.length c0_0, .slice A0_1 l0_1.length c0_1, .slice (some ad) l0_2.length c0_2, .slice A0_3 l0_3.length c0_3, .slice A0_4 l0_4.length c0_4] 27 (0, 0))) ∧ Aside0 (wc.heap[g7]? = some (.cells #[.int .i64 At, .int .i64 Co] 67 (0, 0))) ∧ Aside0 (Below w.heap.size w wc)) ⟨⟨blk_far (blk_far B3.out N37.out _) N37.out _⟩, ⟨(blk_set (blk_set B7.out 0 _) 1 _).trans rfl⟩, ⟨below_set (below_set (pw_below_drewN HB.out _) GW7.out) GW7.out⟩⟩ ?_
  clear B3 B7 B9 HB s2 x0 x1 z0 z1 y0 y1
  rintro w11 ⟨B3, B7, HB⟩
  go_wp2
  obtain ⟨gk, rfl⟩ : ∃ q, gk = q + 1 := ⟨gk - 1, by omega⟩
  go_roundg gk
  case measure => omega
  case rel => exact ⟨k + 1, by omega, by go_num, ⟨by rw [all_succ, HA.out, hjk]; rfl⟩, B3, by rw [HWN1.out, HWN2.out]; exact B7, HB⟩
 have d2 : (St == 1) = false := beq_eq_false_iff_ne.mpr c2
 have d2n : (St != 1) = true := bne_iff_ne.mpr c2
 by_cases c3 : St = -1
 ·
  have d3 : (St == -1) = true := beq_iff_eq.mpr c3
  have d3n : (St != -1) = false := bne_eq_false_iff_eq.mpr c3
  cases c5 : fitsB At a1
  ·
   have hjk : lokB a2 a1 l0_2 k = false := by rw [HOK.out, d1, d2, d3, c5]; simp
   go_wp2_with (first | (go_at_call 52; (with_reducible refine (block_fits.calls At a1 _ _ (fits_f At a1)).mono ?_); rintro e w10 ⟨rfl, hd⟩; obtain ⟨nd, rfl⟩ := hd.out))
   go_ret
   exact ⟨by rw [← HRES.out, leapedB, all_no _ hlt hjk]; rfl, pw_below_drewN HB.out _⟩
  have hjk : lokB a2 a1 l0_2 k = true := by rw [HOK.out, d1, d2, d3, c5]; simp
  go_upto_region 10 with (first | (go_at_call 52; (with_reducible refine (block_fits.calls At a1 _ _ (fits_f At a1)).mono ?_); rintro e w10 ⟨rfl, hd⟩; obtain ⟨nd, rfl⟩ := hd.out))
  refine forget_wp (fun wc => Aside0 (wc.heap[g3]? = some (.cells #[.slice A0_0 l0_0.length c0_0, .slice A0_1 l0_1.length c0_1, .slice (some ad) l0_2.length c0_2, .slice A0_3 l0_3.length c0_3, .slice A0_4 l0_4.length c0_4] 27 (0, 0))) ∧ Aside0 (wc.heap[g7]? = some (.cells #[.int .i64 At, .int .i64 Co] 67 (0, 0))) ∧ Aside0 (Below w.heap.size w wc)) ⟨⟨blk_far (blk_far B3.out N37.out _) N37.out _⟩, ⟨(blk_set (blk_set B7.out 0 _) 1 _).trans rfl⟩, ⟨below_set (below_set (pw_below_drewN HB.out _) GW7.out) GW7.out⟩⟩ ?_
  clear B3 B7 B9 HB s2 x0 x1 z0 z1 y0 y1
  rintro w11 ⟨B3, B7, HB⟩
  go_wp2
  obtain ⟨gk, rfl⟩ : ∃ q, gk = q + 1 := ⟨gk - 1, by omega⟩
  go_roundg gk
  case measure => omega
  case rel => exact ⟨k + 1, by omega, by go_num, ⟨by rw [all_succ, HA.out, hjk]; rfl⟩, B3, by rw [HWN1.out, HWN2.out]; exact B7, HB⟩
 have d3 : (St == -1) = false := beq_eq_false_iff_ne.mpr c3
 have d3n : (St != -1) = true := bne_iff_ne.mpr c3
 cases La
 ·
  have hjk : lokB a2 a1 l0_2 k = false := by rw [HOK.out, d1, d2, d3]; simp
  go_wp2_with (first | (go_at_call 52; (with_reducible refine (block_fits.calls At a1 _ _ (fits_f At a1)).mono ?_); rintro e w10 ⟨rfl, hd⟩; obtain ⟨nd, rfl⟩ := hd.out))
  go_ret
  exact ⟨by rw [← HRES.out, leapedB, all_no _ hlt hjk]; rfl, HB.out⟩
 cases c5 : fitsB At a1
 ·
  have hjk : lokB a2 a1 l0_2 k = false := by rw [HOK.out, d1, d2, d3, c5]; simp
  go_wp2_with (first | (go_at_call 52; (with_reducible refine (block_fits.calls At a1 _ _ (fits_f At a1)).mono ?_); rintro e w10 ⟨rfl, hd⟩; obtain ⟨nd, rfl⟩ := hd.out))
  go_ret
  exact ⟨by rw [← HRES.out, leapedB, all_no _ hlt hjk]; rfl, pw_below_drewN HB.out _⟩
 have hjk : lokB a2 a1 l0_2 k = true := by rw [HOK.out, d1, d2, d3, c5]; simp
 go_upto_region 10 with (first | (go_at_call 52; (with_reducible refine (block_fits.calls At a1 _ _ (fits_f At a1)).mono ?_); rintro e w10 ⟨rfl, hd⟩; obtain ⟨nd, rfl⟩ := hd.out))
 refine forget_wp (fun wc => Aside0 (wc.heap[g3]? = some (.cells #[.slice A0_0 l0_0.length c0_0, .slice A0_1 l0_1.length c0_1, .slice (some ad) l0_2.length c0_2, .slice A0_3 l0_3.length c0_3, .slice A0_4 l0_4.length c0_4] 27 (0, 0))) ∧ Aside0 (wc.heap[g7]? = some (.cells #[.int .i64 At, .int .i64 Co] 67 (0, 0))) ∧ Aside0 (Below w.heap.size w wc)) ⟨⟨blk_far (blk_far B3.out N37.out _) N37.out _⟩, ⟨(blk_set (blk_set B7.out 0 _) 1 _).trans rfl⟩, ⟨below_set (below_set (pw_below_drewN HB.out _) GW7.out) GW7.out⟩⟩ ?_
 clear B3 B7 B9 HB s2 x0 x1 z0 z1 y0 y1
 rintro w11 ⟨B3, B7, HB⟩
 go_wp2
 obtain ⟨gk, rfl⟩ : ∃ q, gk = q + 1 := ⟨gk - 1, by omega⟩
 go_roundg gk
 case measure => omega
 case rel => exact ⟨k + 1, by omega, by go_num, ⟨by rw [all_succ, HA.out, hjk]; rfl⟩, B3, by rw [HWN1.out, HWN2.out]; exact B7, HB⟩
end Go.Proofs.Ythobnoknbdljgaa.Hand
end
section
namespace Go.Proofs.Ythobnoknbdljgaa.PK
open Go.Proofs.Ythobnoknbdljgaa.PB0 Sq
open Go.RowKit Go.Proofs.Ythobnoknbdljgaa.Stub Go.Proofs.Ythobnoknbdljgaa.Hand Go.Proofs.YthobnoknbdljgaaW.PrintWords Go.Proofs.YthobnoknbdljgaaW.PrintLast Go.Proofs.YthobnoknbdljgaaW.PrintMore
attribute [local go_sem] max2_int min2_int max_two min_two
set_option linter.unusedVariables false
set_option linter.unusedSimpArgs false
mutual
def block_Block_kinded.j0 : Nat → Bool → List (S56) → List (S54) → List (S67) → List Bool → List Bool → Option (Bool)
 | 0, _, _, _, _, _, _ => none
 | k + 1, x42, x102000, x102001, x102002, x102003, x102004 => if x42 = true then (some false) else (block_Block_kinded.l0 k x102000 (x102000.length : Int) 0 x102000 x102001 x102002 x102003 x102004)
def block_Block_kinded.l0 : Nat → List (S56) → Int → Int → List (S56) → List (S54) → List (S67) → List Bool → List Bool → Option (Bool)
 | 0, _, _, _, _, _, _, _, _ => none
 | k + 1, x44, x45, x46, x102000, x102001, x102002, x102003, x102004 => if x46 < x45 then (if 0 ≤ x46 then (if x46 < (x44.length : Int) then (if ((rd_T56 x44 x46).f0) ≤ (-2147483648) then (block_Block_kinded.j2 k x46 x44 x45 x46 true x102000 x102001 x102002 x102003 x102004) else (if ((rd_T56 x44 x46).f0) > 2147483647 then (block_Block_kinded.j2 k x46 x44 x45 x46 true x102000 x102001 x102002 x102003 x102004) else ((strings_Contains.f ((rd_T56 x44 x46).f2) (⟨#[0]⟩ : ByteArray)).bind fun t108 => (block_Block_kinded.j2 k x46 x44 x45 x46 t108 x102000 x102001 x102002 x102003 x102004)))) else (none)) else (none)) else ((block_names.f x102000).bind fun bt102 => (some (decide ((bt102.1.size : Int) ≤ 256))))
def block_Block_kinded.j2 : Nat → Int → List (S56) → Int → Int → Bool → List (S56) → List (S54) → List (S67) → List Bool → List Bool → Option (Bool)
 | 0, _, _, _, _, _, _, _, _, _, _ => none
 | k + 1, x4, x44, x45, x46, x63, x102000, x102001, x102002, x102003, x102004 => if x63 = true then (some false) else (if (x102004.length : Int) > 0 then (if 0 ≤ x4 then (if x4 < (x102004.length : Int) then (if rdOf false x102004 x4 = true then (if (x102003.length : Int) = 0 then (some false) else (if x4 < (x102003.length : Int) then (if rdOf false x102003 x4 = true then (block_Block_kinded.l0 k x44 x45 (wrap64 (x46 + 1)) x102000 x102001 x102002 x102003 x102004) else (some false)) else (none))) else (block_Block_kinded.l0 k x44 x45 (wrap64 (x46 + 1)) x102000 x102001 x102002 x102003 x102004)) else (none)) else (none)) else (block_Block_kinded.l0 k x44 x45 (wrap64 (x46 + 1)) x102000 x102001 x102002 x102003 x102004))
end
def block_Block_kinded.f (k : Nat) (l0_0 : List (S56)) (l0_1 : List (S54)) (l0_2 : List (S67)) (l0_3 : List Bool) (l0_4 : List Bool) : Option (Bool) := if (l0_0.length : Int) < 1 then (block_Block_kinded.j0 k true l0_0 l0_1 l0_2 l0_3 l0_4) else (if (l0_0.length : Int) > 256 then (block_Block_kinded.j0 k true l0_0 l0_1 l0_2 l0_3 l0_4) else (if (l0_3.length : Int) = 0 then (if (l0_4.length : Int) = 0 then (block_Block_kinded.j0 k false l0_0 l0_1 l0_2 l0_3 l0_4) else (block_Block_kinded.j0 k ((l0_4.length : Int) != (l0_0.length : Int)) l0_0 l0_1 l0_2 l0_3 l0_4)) else (if (l0_3.length : Int) = (l0_0.length : Int) then (if (l0_4.length : Int) = 0 then (block_Block_kinded.j0 k false l0_0 l0_1 l0_2 l0_3 l0_4) else (block_Block_kinded.j0 k ((l0_4.length : Int) != (l0_0.length : Int)) l0_0 l0_1 l0_2 l0_3 l0_4)) else (block_Block_kinded.j0 k true l0_0 l0_1 l0_2 l0_3 l0_4))))
set_option maxHeartbeats 8000000 in
set_option maxRecDepth 100000 in
theorem block_Block_kinded.calls (k : Nat) (A0_0 : Option Addr) (c0_0 : Nat) (l0_0 : List (S56)) (A0_1 : Option Addr) (c0_1 : Nat) (l0_1 : List (S54)) (A0_2 : Option Addr) (c0_2 : Nat) (l0_2 : List (S67)) (A0_3 : Option Addr) (c0_3 : Nat) (l0_3 : List Bool) (A0_4 : Option Addr) (c0_4 : Nat) (l0_4 : List Bool) (r : Bool) (w : World) (hr0_0 : Kd.C k56 w A0_0 l0_0.length l0_0) (hc0_0 : l0_0.length ≤ c0_0) (hr0_1 : Kd.C k54 w A0_1 l0_1.length l0_1) (hc0_1 : l0_1.length ≤ c0_1) (hr0_2 : Kd.C k67 w A0_2 l0_2.length l0_2) (hc0_2 : l0_2.length ≤ c0_2) (hr0_3 : Kd.C Kd.bool w A0_3 l0_3.length l0_3) (hc0_3 : l0_3.length ≤ c0_3) (hr0_4 : Kd.C Kd.bool w A0_4 l0_4.length l0_4) (hc0_4 : l0_4.length ≤ c0_4) (h : block_Block_kinded.f k l0_0 l0_1 l0_2 l0_3 l0_4 = some r) :
  Calls Try.prog 30 #[.agg #[.slice A0_0 l0_0.length c0_0, .slice A0_1 l0_1.length c0_1, .slice A0_2 l0_2.length c0_2, .slice A0_3 l0_3.length c0_3, .slice A0_4 l0_4.length c0_4]] w fun e w' => e = .returned (.bool r) ∧ Below w.heap.size w w' := by
 have hu27 := Try.underlying27
 have hu56 := Try.underlying56
 have HR0_0 := Aside0.mk hr0_0
 have HC0_0 := Aside0.mk hc0_0
 clear hr0_0 hc0_0
 have HR0_1 := Aside0.mk hr0_1
 have HC0_1 := Aside0.mk hc0_1
 clear hr0_1 hc0_1
 have HR0_2 := Aside0.mk hr0_2
 have HC0_2 := Aside0.mk hc0_2
 clear hr0_2 hc0_2
 have HR0_3 := Aside0.mk hr0_3
 have HC0_3 := Aside0.mk hc0_3
 clear hr0_3 hc0_3
 have HR0_4 := Aside0.mk hr0_4
 have HC0_4 := Aside0.mk hc0_4
 clear hr0_4 hc0_4
 have HB := Aside0.mk (Below.refl w.heap.size w)
 have H : (if (l0_0.length : Int) < 1 then (block_Block_kinded.j0 k true l0_0 l0_1 l0_2 l0_3 l0_4) else (if (l0_0.length : Int) > 256 then (block_Block_kinded.j0 k true l0_0 l0_1 l0_2 l0_3 l0_4) else (if (l0_3.length : Int) = 0 then (if (l0_4.length : Int) = 0 then (block_Block_kinded.j0 k false l0_0 l0_1 l0_2 l0_3 l0_4) else (block_Block_kinded.j0 k ((l0_4.length : Int) != (l0_0.length : Int)) l0_0 l0_1 l0_2 l0_3 l0_4)) else (if (l0_3.length : Int) = (l0_0.length : Int) then (if (l0_4.length : Int) = 0 then (block_Block_kinded.j0 k false l0_0 l0_1 l0_2 l0_3 l0_4) else (block_Block_kinded.j0 k ((l0_4.length : Int) != (l0_0.length : Int)) l0_0 l0_1 l0_2 l0_3 l0_4)) else (block_Block_kinded.j0 k true l0_0 l0_1 l0_2 l0_3 l0_4))))) = some r := h
 clear h
 have HC2 := Aside0.mk H
 clear H
 go_enter Try.func30, Try.ntmps30
 go_upto_region 2 with (first | ((with_reducible refine gate_dst (N := 1) rfl ?_); (try (refine gate_guard (by rfl) ?_; dsimp only)); refine box_event ?hg (N := 1) ?hd (cs := #[.slice A0_0 l0_0.length c0_0, .slice A0_1 l0_1.length c0_1, .slice A0_2 l0_2.length c0_2, .slice A0_3 l0_3.length c0_3, .slice A0_4 l0_4.length c0_4]) (t := 27) ?hr ?_; (case hd => rfl); (case hg => rfl); (case hr => first | (go_simp; done) | (go_simp; rfl)); intro gb101 hg w3 hbox hb; have BK101 := Aside0.mk (hbox); have GW101 := Aside0.mk ((by rw [hg]; exact (below_size (Sq.kl HB)) : w.heap.size ≤ gb101)); have GE101 := Aside0.mk ((by rw [hg]; exact (below_size (Sq.kl HB)) : w.heap.size ≤ gb101)); replace HB := Aside0.mk (below_step (Sq.kl HB) hb); clear hb hbox hg; obtain ⟨hcz4_0, hcz4_1, hcz4_2, hcz4_3, hcz4_4⟩ := Sq.c5 BK101; obtain ⟨hfz4_0, hfz4_1, hfz4_2, hfz4_3, hfz4_4⟩ := Sq.z5 BK101))
 (try simp only [Act.put, List.setIfInBounds_toArray, List.set_cons_zero, List.set_cons_succ])
 go_cut [42] (fun v42 wc => ∃ (kq : Nat) (x42_1 : Bool), v42 = .bool x42_1 ∧ Aside0 (block_Block_kinded.j0 kq x42_1 l0_0 l0_1 l0_2 l0_3 l0_4 = some r) ∧ Aside0 (kq ≤ k) ∧ Aside0 (wc.heap[gb101]? = some (.cells #[(.slice A0_0 l0_0.length c0_0), (.slice A0_1 l0_1.length c0_1), (.slice A0_2 l0_2.length c0_2), (.slice A0_3 l0_3.length c0_3), (.slice A0_4 l0_4.length c0_4)] 27 (0, 0))) ∧ Aside0 (Below w.heap.size w wc))
 case first =>
  have H := HC2.out
  clear HC2
  by_cases c5 : (l0_0.length : Int) < 1
  ·
   rw [if_pos c5] at H
   have c5b0 : decide ((l0_0.length : Int) < 1) = true := decide_eq_true c5
   have c5b1 : decide (l0_0.length < 1) = true := decide_eq_true (by omega)
   clear c5
   (first | rw [c5b0] | rw [c5b1] | (simp only [i64_w, i32_w]; rw [c5b0]) | skip)
   have H' := Aside0.mk H
   clear H
   go_wp2
   go_meet
   case rel => exact ⟨_, (true), (by first | rfl | (simp; done) | (simp [*]; done)), H', ⟨by first | omega | exact Nat.le_refl _⟩, ⟨Sq.kb BK101⟩, ⟨Sq.kl1 HB GE101⟩⟩
  rw [if_neg c5] at H
  have c5b0 : decide ((l0_0.length : Int) < 1) = false := decide_eq_false c5
  have c5b1 : decide (l0_0.length < 1) = false := decide_eq_false (by omega)
  clear c5
  (first | rw [c5b0] | rw [c5b1] | (simp only [i64_w, i32_w]; rw [c5b0]) | skip)
  by_cases c6 : (l0_0.length : Int) > 256
  ·
   rw [if_pos c6] at H
   have c6b0 : decide (256 < (l0_0.length : Int)) = true := decide_eq_true c6
   have c6b1 : decide (256 < l0_0.length) = true := decide_eq_true (by omega)
   clear c6
   have H' := Aside0.mk H
   clear H
   go_wp2
   go_meet
   case rel => exact ⟨_, (true), (by first | rfl | (simp; done) | (simp [*]; done)), H', ⟨by first | omega | exact Nat.le_refl _⟩, ⟨Sq.kb BK101⟩, ⟨Sq.kl1 HB GE101⟩⟩
  rw [if_neg c6] at H
  have c6b0 : decide (256 < (l0_0.length : Int)) = false := decide_eq_false c6
  have c6b1 : decide (256 < l0_0.length) = false := decide_eq_false (by omega)
  clear c6
  by_cases c7 : (l0_3.length : Int) = 0
  ·
   rw [if_pos c7] at H
   have c7b0 : ((l0_3.length : Int) == 0) = true := beq_iff_eq.mpr c7
   have c7b1 : ((l0_3.length : Int) != 0) = false := bne_eq_false_iff_eq.mpr c7
   clear c7
   by_cases c8 : (l0_4.length : Int) = 0
   ·
    rw [if_pos c8] at H
    have c8b0 : ((l0_4.length : Int) == 0) = true := beq_iff_eq.mpr c8
    have c8b1 : ((l0_4.length : Int) != 0) = false := bne_eq_false_iff_eq.mpr c8
    clear c8
    have H' := Aside0.mk H
    clear H
    obtain ⟨hcz9_0, hcz9_1, hcz9_2, hcz9_3, hcz9_4⟩ := Sq.c5 BK101
    obtain ⟨hfz9_0, hfz9_1, hfz9_2, hfz9_3, hfz9_4⟩ := Sq.z5 BK101
    go_wp2
    go_meet
    case rel => exact ⟨_, (false), (by first | rfl | (simp; done) | (simp [*]; done)), H', ⟨by first | omega | exact Nat.le_refl _⟩, ⟨Sq.kb BK101⟩, ⟨Sq.kl1 HB GE101⟩⟩
   rw [if_neg c8] at H
   have c8b0 : ((l0_4.length : Int) == 0) = false := beq_eq_false_iff_ne.mpr c8
   have c8b1 : ((l0_4.length : Int) != 0) = true := bne_iff_ne.mpr c8
   have c8b2 : ¬ (l0_4 = []) := fun h_ => c8 (by rw [h_]; rfl)
   have H' := Aside0.mk H
   clear H
   obtain ⟨hcz10_0, hcz10_1, hcz10_2, hcz10_3, hcz10_4⟩ := Sq.c5 BK101
   obtain ⟨hfz10_0, hfz10_1, hfz10_2, hfz10_3, hfz10_4⟩ := Sq.z5 BK101
   go_wp2
   go_meet
   case rel => exact ⟨_, (((l0_4.length : Int) != (l0_0.length : Int))), (by first | rfl | (simp; done) | (simp [*]; done)), H', ⟨by first | omega | exact Nat.le_refl _⟩, ⟨Sq.kb BK101⟩, ⟨Sq.kl1 HB GE101⟩⟩
  rw [if_neg c7] at H
  have c7b0 : ((l0_3.length : Int) == 0) = false := beq_eq_false_iff_ne.mpr c7
  have c7b1 : ((l0_3.length : Int) != 0) = true := bne_iff_ne.mpr c7
  have c7b2 : ¬ (l0_3 = []) := fun h_ => c7 (by rw [h_]; rfl)
  by_cases c11 : (l0_3.length : Int) = (l0_0.length : Int)
  rotate_left
  ·
   rw [if_neg c11] at H
   have c11b0 : ((l0_3.length : Int) == (l0_0.length : Int)) = false := beq_eq_false_iff_ne.mpr c11
   have c11b1 : ((l0_3.length : Int) != (l0_0.length : Int)) = true := bne_iff_ne.mpr c11
   have c11b2 : (l0_3.length == l0_0.length) = false := by first | simpa using c11 | (simp at c11 ⊢; omega)
   have H' := Aside0.mk H
   clear H
   obtain ⟨hcz15_0, hcz15_1, hcz15_2, hcz15_3, hcz15_4⟩ := Sq.c5 BK101
   obtain ⟨hfz15_0, hfz15_1, hfz15_2, hfz15_3, hfz15_4⟩ := Sq.z5 BK101
   go_wp2
   go_meet
   case rel => exact ⟨_, (true), (by first | rfl | (simp; done) | (simp [*]; done)), H', ⟨by first | omega | exact Nat.le_refl _⟩, ⟨Sq.kb BK101⟩, ⟨Sq.kl1 HB GE101⟩⟩
  rw [if_pos c11] at H
  have c11b0 : ((l0_3.length : Int) == (l0_0.length : Int)) = true := beq_iff_eq.mpr c11
  have c11b1 : ((l0_3.length : Int) != (l0_0.length : Int)) = false := bne_eq_false_iff_eq.mpr c11
  have c11b2 : (l0_3.length == l0_0.length) = true := by first | simpa using c11 | (simp at c11 ⊢; omega)
  clear c11
  by_cases c12 : (l0_4.length : Int) = 0
  ·
   rw [if_pos c12] at H
   have c12b0 : ((l0_4.length : Int) == 0) = true := beq_iff_eq.mpr c12
   have c12b1 : ((l0_4.length : Int) != 0) = false := bne_eq_false_iff_eq.mpr c12
   clear c12
   have H' := Aside0.mk H
   clear H
   obtain ⟨hcz13_0, hcz13_1, hcz13_2, hcz13_3, hcz13_4⟩ := Sq.c5 BK101
   obtain ⟨hfz13_0, hfz13_1, hfz13_2, hfz13_3, hfz13_4⟩ := Sq.z5 BK101
   go_wp2
   go_meet
   case rel => exact ⟨_, (false), (by first | rfl | (simp; done) | (simp [*]; done)), H', ⟨by first | omega | exact Nat.le_refl _⟩, ⟨Sq.kb BK101⟩, ⟨Sq.kl1 HB GE101⟩⟩
  rw [if_neg c12] at H
  have c12b0 : ((l0_4.length : Int) == 0) = false := beq_eq_false_iff_ne.mpr c12
  have c12b1 : ((l0_4.length : Int) != 0) = true := bne_iff_ne.mpr c12
  have c12b2 : ¬ (l0_4 = []) := fun h_ => c12 (by rw [h_]; rfl)
  have H' := Aside0.mk H
  clear H
  obtain ⟨hcz14_0, hcz14_1, hcz14_2, hcz14_3, hcz14_4⟩ := Sq.c5 BK101
  obtain ⟨hfz14_0, hfz14_1, hfz14_2, hfz14_3, hfz14_4⟩ := Sq.z5 BK101
  go_wp2
  go_meet
  case rel => exact ⟨_, (((l0_4.length : Int) != (l0_0.length : Int))), (by first | rfl | (simp; done) | (simp [*]; done)), H', ⟨by first | omega | exact Nat.le_refl _⟩, ⟨Sq.kb BK101⟩, ⟨Sq.kl1 HB GE101⟩⟩
 clear HC2
 try clear c1
 try clear p2
 try clear c3
 try clear c5
 try clear c5b0
 try clear c5b1
 try clear c6
 try clear c6b0
 try clear c6b1
 try clear c7
 try clear c7b0
 try clear c7b1
 try clear c7b2
 try clear c8
 try clear c8b0
 try clear c8b1
 try clear c8b2
 try clear c11
 try clear c11b0
 try clear c11b1
 try clear c11b2
 try clear c12
 try clear c12b0
 try clear c12b1
 try clear c12b2
 try clear hcz10_0
 try clear hcz10_1
 try clear hcz10_2
 try clear hcz10_3
 try clear hcz10_4
 try clear hcz13_0
 try clear hcz13_1
 try clear hcz13_2
 try clear hcz13_3
 try clear hcz13_4
 try clear hcz14_0
 try clear hcz14_1
 try clear hcz14_2
 try clear hcz14_3
 try clear hcz14_4
 try clear hcz15_0
 try clear hcz15_1
 try clear hcz15_2
 try clear hcz15_3
 try clear hcz15_4
 try clear hcz4_0
 try clear hcz4_1
 try clear hcz4_2
 try clear hcz4_3
 try clear hcz4_4
 try clear hcz9_0
 try clear hcz9_1
 try clear hcz9_2
 try clear hcz9_3
 try clear hcz9_4
 try clear hfz10_0
 try clear hfz10_1
 try clear hfz10_2
 try clear hfz10_3
 try clear hfz10_4
 try clear hfz13_0
 try clear hfz13_1
 try clear hfz13_2
 try clear hfz13_3
 try clear hfz13_4
 try clear hfz14_0
 try clear hfz14_1
 try clear hfz14_2
 try clear hfz14_3
 try clear hfz14_4
 try clear hfz15_0
 try clear hfz15_1
 try clear hfz15_2
 try clear hfz15_3
 try clear hfz15_4
 try clear hfz4_0
 try clear hfz4_1
 try clear hfz4_2
 try clear hfz4_3
 try clear hfz4_4
 try clear hfz9_0
 try clear hfz9_1
 try clear hfz9_2
 try clear hfz9_3
 try clear hfz9_4
 obtain ⟨kq, x42_1, rfl, HA, HJ1, BK101, HB⟩ := hcut
 cases kq with
 | zero => exact absurd HA.out (by simp [block_Block_kinded.j0])
 | succ kj1 =>
  have H := HA.out
  clear HA
  simp only [block_Block_kinded.j0] at H
  by_cases c16 : x42_1 = true
  ·
   subst c16
   rw [if_pos rfl] at H
   obtain rfl := Option.some.inj H
   go_wp2
   go_ret
   exact ⟨by first | rfl | (simp [errW_none, errW_some] <;> rfl) | (simp [*, errW_none, errW_some] <;> rfl), by repeat (first | (with_reducible first | exact HB.out | apply below_alloc | apply pw_below_drewN | apply below_drew1 | refine below_set ?_ GE101.out) | exact HB.out)⟩
  replace c16 := Bool.eq_false_iff.mpr c16
  subst c16
  rw [if_neg (show ¬ (false = true) by decide)] at H
  have H' := Aside0.mk H
  clear H
  obtain ⟨hcz17_0, hcz17_1, hcz17_2, hcz17_3, hcz17_4⟩ := Sq.c5 BK101
  obtain ⟨hfz17_0, hfz17_1, hfz17_2, hfz17_3, hfz17_4⟩ := Sq.z5 BK101
  go_wp2
  go_loopg [46] kj1 (fun kq v46 w' => ∃ (x46_2 : Int), v46 = .int .i64 x46_2 ∧ Aside0 (block_Block_kinded.l0 kq l0_0 (l0_0.length : Int) x46_2 l0_0 l0_1 l0_2 l0_3 l0_4 = some r) ∧ Aside0 (kq ≤ kj1) ∧ Aside0 (w'.heap[gb101]? = some (.cells #[(.slice A0_0 l0_0.length c0_0), (.slice A0_1 l0_1.length c0_1), (.slice A0_2 l0_2.length c0_2), (.slice A0_3 l0_3.length c0_3), (.slice A0_4 l0_4.length c0_4)] 27 (0, 0))) ∧ Aside0 (Below w.heap.size w w'))
  case atStart => exact ⟨(0), (by first | rfl | (simp; done) | (simp [*]; done)), H', ⟨Nat.le_refl _⟩, ⟨Sq.kb BK101⟩, ⟨Sq.kl1 HB GE101⟩⟩
  clear H'
  try clear c1
  try clear p2
  try clear c3
  try clear c5
  try clear c5b0
  try clear c5b1
  try clear c6
  try clear c6b0
  try clear c6b1
  try clear c7
  try clear c7b0
  try clear c7b1
  try clear c7b2
  try clear c8
  try clear c8b0
  try clear c8b1
  try clear c8b2
  try clear c11
  try clear c11b0
  try clear c11b1
  try clear c11b2
  try clear c12
  try clear c12b0
  try clear c12b1
  try clear c12b2
  try clear c16
  try clear hcz10_0
  try clear hcz10_1
  try clear hcz10_2
  try clear hcz10_3
  try clear hcz10_4
  try clear hcz13_0
  try clear hcz13_1
  try clear hcz13_2
  try clear hcz13_3
  try clear hcz13_4
  try clear hcz14_0
  try clear hcz14_1
  try clear hcz14_2
  try clear hcz14_3
  try clear hcz14_4
  try clear hcz15_0
  try clear hcz15_1
  try clear hcz15_2
  try clear hcz15_3
  try clear hcz15_4
  try clear hcz17_0
  try clear hcz17_1
  try clear hcz17_2
  try clear hcz17_3
  try clear hcz17_4
  try clear hcz4_0
  try clear hcz4_1
  try clear hcz4_2
  try clear hcz4_3
  try clear hcz4_4
  try clear hcz9_0
  try clear hcz9_1
  try clear hcz9_2
  try clear hcz9_3
  try clear hcz9_4
  try clear hfz10_0
  try clear hfz10_1
  try clear hfz10_2
  try clear hfz10_3
  try clear hfz10_4
  try clear hfz13_0
  try clear hfz13_1
  try clear hfz13_2
  try clear hfz13_3
  try clear hfz13_4
  try clear hfz14_0
  try clear hfz14_1
  try clear hfz14_2
  try clear hfz14_3
  try clear hfz14_4
  try clear hfz15_0
  try clear hfz15_1
  try clear hfz15_2
  try clear hfz15_3
  try clear hfz15_4
  try clear hfz17_0
  try clear hfz17_1
  try clear hfz17_2
  try clear hfz17_3
  try clear hfz17_4
  try clear hfz4_0
  try clear hfz4_1
  try clear hfz4_2
  try clear hfz4_3
  try clear hfz4_4
  try clear hfz9_0
  try clear hfz9_1
  try clear hfz9_2
  try clear hfz9_3
  try clear hfz9_4
  try clear p2
  obtain ⟨x46_2, rfl, HA, HK2, BK101, HB⟩ := hrel
  cases gk with
  | zero => exact absurd HA.out (by simp [block_Block_kinded.l0])
  | succ k2 =>
   have H := HA.out
   clear HA
   simp only [block_Block_kinded.l0] at H
   by_cases c18 : x46_2 < (l0_0.length : Int)
   rotate_left
   ·
    rw [if_neg c18] at H
    have c18b0 : decide (x46_2 < (l0_0.length : Int)) = false := decide_eq_false c18
    clear c18
    replace H := Option.bind_eq_some_iff.mp H
    obtain ⟨⟨t102, t103⟩, A540, H⟩ := H
    replace H : (some (decide ((t102.size : Int) ≤ 256))) = some r := H
    have A54 := Aside0.mk A540
    clear A540
    obtain rfl := Option.some.inj H
    obtain ⟨hcz55_0, hcz55_1, hcz55_2, hcz55_3, hcz55_4⟩ := Sq.c5 BK101
    obtain ⟨hfz55_0, hfz55_1, hfz55_2, hfz55_3, hfz55_4⟩ := Sq.z5 BK101
    go_wp2_with (first | ((with_reducible refine gate_callee (f := 27) rfl ?_); refine goesL_ (some 93) rfl rfl Try.func27 (by kernel_rfl) rfl #[.slice A0_0 l0_0.length c0_0] rfl (by (try simp only [List.map_toArray, List.map_cons, List.map_nil]); first | done | rfl | (simp only [List.length_drop, List.length_take]; rfl)) ?_; (with_reducible refine (block_names.calls _ _ l0_0 t102 t103 _ ?side1 ?side2 A54.out).mono ?_); (case side1 => exact Sq.qd HR0_0 HB); (case side2 => exact HC0_0.out); rintro e w56 ⟨v104, rfl, ho0, hb⟩; refine ⟨_, rfl, ?_⟩; have HO105 := Aside0.mk (Kd.R_lower ho0 (below_size (Sq.kl1 HB GE101))); replace BK101 := kbb BK101 hb; replace HB := Aside0.mk (below_step (Sq.kl1 HB GE101) hb); (try clear hb); (try clear ho0)))
    go_ret
    exact ⟨by first | rfl | (simp [errW_none, errW_some] <;> rfl) | (simp [*, errW_none, errW_some] <;> rfl), by repeat (first | (with_reducible first | exact HB.out | apply below_alloc | apply pw_below_drewN | apply below_drew1 | refine below_set ?_ GE101.out) | exact HB.out)⟩
   rw [if_pos c18] at H
   have c18b0 : decide (x46_2 < (l0_0.length : Int)) = true := decide_eq_true c18
   clear c18
   by_cases c19 : 0 ≤ x46_2
   rotate_left
   ·
    rw [if_neg c19] at H
    exact absurd H (by simp)
   rw [if_pos c19] at H
   have c19b0 : decide (0 ≤ x46_2) = true := decide_eq_true c19
   clear c19
   by_cases c20 : x46_2 < (l0_0.length : Int)
   rotate_left
   ·
    rw [if_neg c20] at H
    exact absurd H (by simp)
   rw [if_pos c20] at H
   have c20b0 : decide (x46_2 < (l0_0.length : Int)) = true := decide_eq_true c20
   clear c20
   have HC21 := Aside0.mk H
   clear H
   have p106 : 0 ≤ (x46_2 : Int) := of_decide_eq_true (by first | (with_reducible assumption) | assumption)
   have q106 : x46_2 < (l0_0.length : Int) := of_decide_eq_true (by first | (with_reducible assumption) | assumption)
   obtain ⟨ad106, e106, hx106_0, hx106_1, hx106_2⟩ := at_T56 HR0_0.out x46_2 p106 q106
   cases e106
   replace hx106_0 := (HB.out.cell (World.block_lt_of_cell? w _ hx106_0)).trans hx106_0
   replace hx106_1 := (HB.out.cell (World.block_lt_of_cell? w _ hx106_1)).trans hx106_1
   replace hx106_2 := (HB.out.cell (World.block_lt_of_cell? w _ hx106_2)).trans hx106_2
   replace p106 := eq_true p106
   replace q106 := eq_true q106
   go_upto_region 7 with (first | ((with_reducible refine gate_dst (N := 5) rfl ?_); (try (refine gate_guard (by rfl) ?_; dsimp only)); refine box_event ?hg (N := 5) ?hd (cs := #[.int .i64 0, .bool false, .string (⟨#[]⟩ : ByteArray)]) (t := 56) ?hr ?_; (case hd => rfl); (case hg => rfl); (case hr => first | (go_simp; done) | (go_simp; rfl)); intro gb107 hg w22 hbox hb; have BK107 := Aside0.mk (hbox); have GW107 := Aside0.mk ((by rw [hg]; exact (below_size (Sq.kl1 HB GE101)) : w.heap.size ≤ gb107)); have GE107 := Aside0.mk ((by rw [hg]; exact (below_size (Sq.kl1 HB GE101)) : w.heap.size ≤ gb107)); replace HB := Aside0.mk (below_step (Sq.kl1 HB GE101) hb); have NB101_107 := Aside0.mk ((by rw [hg]; exact Nat.ne_of_lt (blk_lt (kb BK101)) : gb101 ≠ gb107)); have NB107_101 := Aside0.mk ((by rw [hg]; exact Nat.ne_of_gt (blk_lt (kb BK101)) : gb107 ≠ gb101)); replace BK101 := kbb BK101 hb; clear hb hbox hg; have hnb23 := NB107_101.out; have hnc23 := NB101_107.out; obtain ⟨hcz24_0, hcz24_1, hcz24_2⟩ := Sq.c3 BK107; obtain ⟨hfz24_0, hfz24_1, hfz24_2⟩ := Sq.z3 BK107))
   (try simp only [Act.put, List.setIfInBounds_toArray, List.set_cons_zero, List.set_cons_succ])
   go_cut [63] (fun v63 wc => ∃ (kq : Nat) (x63_20 : Bool), v63 = .bool x63_20 ∧ Aside0 (block_Block_kinded.j2 kq x46_2 l0_0 (l0_0.length : Int) x46_2 x63_20 l0_0 l0_1 l0_2 l0_3 l0_4 = some r) ∧ Aside0 (kq ≤ k2) ∧ Aside0 (wc.heap[gb101]? = some (.cells #[(.slice (some ad106) l0_0.length c0_0), (.slice A0_1 l0_1.length c0_1), (.slice A0_2 l0_2.length c0_2), (.slice A0_3 l0_3.length c0_3), (.slice A0_4 l0_4.length c0_4)] 27 (0, 0))) ∧ Aside0 (wc.heap[gb107]? = some (.cells #[.int .i64 ((rd_T56 l0_0 x46_2).f0), .bool ((rd_T56 l0_0 x46_2).f1), .string ((rd_T56 l0_0 x46_2).f2)] 56 (0, 0))) ∧ Aside0 (Below w.heap.size w wc))
   case first =>
    have H := HC21.out
    clear HC21
    by_cases c25 : ((rd_T56 l0_0 x46_2).f0) ≤ (-2147483648)
    ·
     rw [if_pos c25] at H
     have c25b0 : decide (((rd_T56 l0_0 x46_2).f0) ≤ (-2147483648)) = true := decide_eq_true c25
     clear c25
     (first | rw [c25b0] | rw [c25b1] | (simp only [i64_w, i32_w]; rw [c25b0]) | skip)
     have H' := Aside0.mk H
     clear H
     have hnb26 := NB107_101.out
     have hnc26 := NB101_107.out
     obtain ⟨hcz27_0, hcz27_1, hcz27_2⟩ := Sq.c3 BK107
     obtain ⟨hfz27_0, hfz27_1, hfz27_2⟩ := Sq.z3 BK107
     go_wp2
     go_meet
     case rel => exact ⟨_, (true), (by first | rfl | (simp; done) | (simp [*]; done)), H', ⟨by have := HJ1.out; have := HK2.out; first | omega | exact Nat.le_refl _⟩, ⟨by (with_reducible repeat (first | refine blk_drewN ?_ _ | refine blk_drew ?_ | refine blk_alloc ?_ _)); refine blk_far ?_ NB101_107.out _; (with_reducible repeat (first | refine blk_drewN ?_ _ | refine blk_drew ?_ | refine blk_alloc ?_ _)); refine blk_far ?_ NB101_107.out _; (with_reducible repeat (first | refine blk_drewN ?_ _ | refine blk_drew ?_ | refine blk_alloc ?_ _)); refine blk_far ?_ NB101_107.out _; exact Sq.kb BK101⟩, ⟨by (with_reducible repeat (first | refine blk_drewN ?_ _ | refine blk_drew ?_ | refine blk_alloc ?_ _)); refine blk_put (cs := #[.int .i64 ((rd_T56 l0_0 x46_2).f0), .bool ((rd_T56 l0_0 x46_2).f1), .string (⟨#[]⟩ : ByteArray)]) ?_ 2 _ rfl; (with_reducible repeat (first | refine blk_drewN ?_ _ | refine blk_drew ?_ | refine blk_alloc ?_ _)); refine blk_put (cs := #[.int .i64 ((rd_T56 l0_0 x46_2).f0), .bool false, .string (⟨#[]⟩ : ByteArray)]) ?_ 1 _ rfl; (with_reducible repeat (first | refine blk_drewN ?_ _ | refine blk_drew ?_ | refine blk_alloc ?_ _)); refine blk_put (cs := #[.int .i64 0, .bool false, .string (⟨#[]⟩ : ByteArray)]) ?_ 0 _ rfl; exact Sq.kb BK107⟩, ⟨Sq.kl2 HB GE101 GE107⟩⟩
    rw [if_neg c25] at H
    have c25b0 : decide (((rd_T56 l0_0 x46_2).f0) ≤ (-2147483648)) = false := decide_eq_false c25
    clear c25
    (first | rw [c25b0] | rw [c25b1] | (simp only [i64_w, i32_w]; rw [c25b0]) | skip)
    by_cases c28 : ((rd_T56 l0_0 x46_2).f0) > 2147483647
    ·
     rw [if_pos c28] at H
     have c28b0 : decide (2147483647 < ((rd_T56 l0_0 x46_2).f0)) = true := decide_eq_true c28
     clear c28
     have H' := Aside0.mk H
     clear H
     have hnb29 := NB107_101.out
     have hnc29 := NB101_107.out
     obtain ⟨hcz30_0, hcz30_1, hcz30_2⟩ := Sq.c3 BK107
     obtain ⟨hfz30_0, hfz30_1, hfz30_2⟩ := Sq.z3 BK107
     go_wp2
     go_meet
     case rel => exact ⟨_, (true), (by first | rfl | (simp; done) | (simp [*]; done)), H', ⟨by have := HJ1.out; have := HK2.out; first | omega | exact Nat.le_refl _⟩, ⟨by (with_reducible repeat (first | refine blk_drewN ?_ _ | refine blk_drew ?_ | refine blk_alloc ?_ _)); refine blk_far ?_ NB101_107.out _; (with_reducible repeat (first | refine blk_drewN ?_ _ | refine blk_drew ?_ | refine blk_alloc ?_ _)); refine blk_far ?_ NB101_107.out _; (with_reducible repeat (first | refine blk_drewN ?_ _ | refine blk_drew ?_ | refine blk_alloc ?_ _)); refine blk_far ?_ NB101_107.out _; exact Sq.kb BK101⟩, ⟨by (with_reducible repeat (first | refine blk_drewN ?_ _ | refine blk_drew ?_ | refine blk_alloc ?_ _)); refine blk_put (cs := #[.int .i64 ((rd_T56 l0_0 x46_2).f0), .bool ((rd_T56 l0_0 x46_2).f1), .string (⟨#[]⟩ : ByteArray)]) ?_ 2 _ rfl; (with_reducible repeat (first | refine blk_drewN ?_ _ | refine blk_drew ?_ | refine blk_alloc ?_ _)); refine blk_put (cs := #[.int .i64 ((rd_T56 l0_0 x46_2).f0), .bool false, .string (⟨#[]⟩ : ByteArray)]) ?_ 1 _ rfl; (with_reducible repeat (first | refine blk_drewN ?_ _ | refine blk_drew ?_ | refine blk_alloc ?_ _)); refine blk_put (cs := #[.int .i64 0, .bool false, .string (⟨#[]⟩ : ByteArray)]) ?_ 0 _ rfl; exact Sq.kb BK107⟩, ⟨Sq.kl2 HB GE101 GE107⟩⟩
    rw [if_neg c28] at H
    have c28b0 : decide (2147483647 < ((rd_T56 l0_0 x46_2).f0)) = false := decide_eq_false c28
    clear c28
    replace H := Option.bind_eq_some_iff.mp H
    obtain ⟨t108, A310, H⟩ := H
    replace H : (block_Block_kinded.j2 k2 x46_2 l0_0 (l0_0.length : Int) x46_2 t108 l0_0 l0_1 l0_2 l0_3 l0_4) = some r := H
    have A31 := Aside0.mk A310
    clear A310
    have H' := Aside0.mk H
    clear H
    have hnb32 := NB107_101.out
    have hnc32 := NB101_107.out
    obtain ⟨hcz33_0, hcz33_1, hcz33_2⟩ := Sq.c3 BK107
    obtain ⟨hfz33_0, hfz33_1, hfz33_2⟩ := Sq.z3 BK107
    go_wp2_with (first | (go_at_call 51; (with_reducible refine (strings_Contains.calls ((rd_T56 l0_0 x46_2).f2) (⟨#[0]⟩ : ByteArray) t108 _ A31.out).mono ?_); rintro e w' ⟨rfl, ⟨nd, rfl⟩⟩))
    go_meet
    case rel => exact ⟨_, (t108), (by first | rfl | (simp; done) | (simp [*]; done)), H', ⟨by have := HJ1.out; have := HK2.out; first | omega | exact Nat.le_refl _⟩, ⟨by (with_reducible repeat (first | refine blk_drewN ?_ _ | refine blk_drew ?_ | refine blk_alloc ?_ _)); refine blk_far ?_ NB101_107.out _; (with_reducible repeat (first | refine blk_drewN ?_ _ | refine blk_drew ?_ | refine blk_alloc ?_ _)); refine blk_far ?_ NB101_107.out _; (with_reducible repeat (first | refine blk_drewN ?_ _ | refine blk_drew ?_ | refine blk_alloc ?_ _)); refine blk_far ?_ NB101_107.out _; exact Sq.kb BK101⟩, ⟨by (with_reducible repeat (first | refine blk_drewN ?_ _ | refine blk_drew ?_ | refine blk_alloc ?_ _)); refine blk_put (cs := #[.int .i64 ((rd_T56 l0_0 x46_2).f0), .bool ((rd_T56 l0_0 x46_2).f1), .string (⟨#[]⟩ : ByteArray)]) ?_ 2 _ rfl; (with_reducible repeat (first | refine blk_drewN ?_ _ | refine blk_drew ?_ | refine blk_alloc ?_ _)); refine blk_put (cs := #[.int .i64 ((rd_T56 l0_0 x46_2).f0), .bool false, .string (⟨#[]⟩ : ByteArray)]) ?_ 1 _ rfl; (with_reducible repeat (first | refine blk_drewN ?_ _ | refine blk_drew ?_ | refine blk_alloc ?_ _)); refine blk_put (cs := #[.int .i64 0, .bool false, .string (⟨#[]⟩ : ByteArray)]) ?_ 0 _ rfl; exact Sq.kb BK107⟩, ⟨Sq.kl2 HB GE101 GE107⟩⟩
   clear HC21
   try clear c1
   try clear p1
   try clear q1
   try clear hx1
   try clear c2
   try clear p2
   try clear c3
   try clear c5
   try clear c5b0
   try clear c5b1
   try clear c6
   try clear c6b0
   try clear c6b1
   try clear c7
   try clear c7b0
   try clear c7b1
   try clear c7b2
   try clear c8
   try clear c8b0
   try clear c8b1
   try clear c8b2
   try clear p10
   try clear q10
   try clear hx10
   try clear c11
   try clear c11b0
   try clear c11b1
   try clear c11b2
   try clear c12
   try clear c12b0
   try clear c12b1
   try clear c12b2
   try clear c16
   try clear c18
   try clear c18b0
   try clear c19
   try clear c19b0
   try clear c20
   try clear c20b0
   try clear c23
   try clear c25
   try clear c25b0
   try clear c26
   try clear c28
   try clear c28b0
   try clear c29
   try clear c30
   try clear c32
   try clear hcz10_0
   try clear hcz10_1
   try clear hcz10_2
   try clear hcz10_3
   try clear hcz10_4
   try clear hcz13_0
   try clear hcz13_1
   try clear hcz13_2
   try clear hcz13_3
   try clear hcz13_4
   try clear hcz14_0
   try clear hcz14_1
   try clear hcz14_2
   try clear hcz14_3
   try clear hcz14_4
   try clear hcz15_0
   try clear hcz15_1
   try clear hcz15_2
   try clear hcz15_3
   try clear hcz15_4
   try clear hcz17_0
   try clear hcz17_1
   try clear hcz17_2
   try clear hcz17_3
   try clear hcz17_4
   try clear hcz24_0
   try clear hcz24_1
   try clear hcz24_2
   try clear hcz27_0
   try clear hcz27_1
   try clear hcz27_2
   try clear hcz30_0
   try clear hcz30_1
   try clear hcz30_2
   try clear hcz33_0
   try clear hcz33_1
   try clear hcz33_2
   try clear hcz4_0
   try clear hcz4_1
   try clear hcz4_2
   try clear hcz4_3
   try clear hcz4_4
   try clear hcz9_0
   try clear hcz9_1
   try clear hcz9_2
   try clear hcz9_3
   try clear hcz9_4
   try clear hfz10_0
   try clear hfz10_1
   try clear hfz10_2
   try clear hfz10_3
   try clear hfz10_4
   try clear hfz13_0
   try clear hfz13_1
   try clear hfz13_2
   try clear hfz13_3
   try clear hfz13_4
   try clear hfz14_0
   try clear hfz14_1
   try clear hfz14_2
   try clear hfz14_3
   try clear hfz14_4
   try clear hfz15_0
   try clear hfz15_1
   try clear hfz15_2
   try clear hfz15_3
   try clear hfz15_4
   try clear hfz17_0
   try clear hfz17_1
   try clear hfz17_2
   try clear hfz17_3
   try clear hfz17_4
   try clear hfz24_0
   try clear hfz24_1
   try clear hfz24_2
   try clear hfz27_0
   try clear hfz27_1
   try clear hfz27_2
   try clear hfz30_0
   try clear hfz30_1
   try clear hfz30_2
   try clear hfz33_0
   try clear hfz33_1
   try clear hfz33_2
   try clear hfz4_0
   try clear hfz4_1
   try clear hfz4_2
   try clear hfz4_3
   try clear hfz4_4
   try clear hfz9_0
   try clear hfz9_1
   try clear hfz9_2
   try clear hfz9_3
   try clear hfz9_4
   try clear hx106_0
   try clear hx106_1
   try clear hx106_2
   try clear p106
   try clear p2
   try clear q106
   obtain ⟨kq, x63_20, rfl, HA, HJ20, BK101, BK107, HB⟩ := hcut
   cases kq with
   | zero => exact absurd HA.out (by simp [block_Block_kinded.j2])
   | succ kj20 =>
    have H := HA.out
    clear HA
    simp only [block_Block_kinded.j2] at H
    by_cases c34 : x63_20 = true
    ·
     subst c34
     rw [if_pos rfl] at H
     obtain rfl := Option.some.inj H
     go_wp2
     go_ret
     exact ⟨by first | rfl | (simp [errW_none, errW_some] <;> rfl) | (simp [*, errW_none, errW_some] <;> rfl), by repeat (first | (with_reducible first | exact HB.out | apply below_alloc | apply pw_below_drewN | apply below_drew1 | refine below_set ?_ GE101.out | refine below_set ?_ GE107.out) | exact HB.out)⟩
    replace c34 := Bool.eq_false_iff.mpr c34
    subst c34
    rw [if_neg (show ¬ (false = true) by decide)] at H
    by_cases c35 : (l0_4.length : Int) > 0
    rotate_left
    ·
     rw [if_neg c35] at H
     have c35b0 : decide (0 < (l0_4.length : Int)) = false := decide_eq_false c35
     have c35b1 : decide (0 < l0_4.length) = false := decide_eq_false (by omega)
     clear c35
     have H' := Aside0.mk H
     clear H
     have hnb52 := NB101_107.out
     have hnc52 := NB107_101.out
     obtain ⟨hcz53_0, hcz53_1, hcz53_2, hcz53_3, hcz53_4⟩ := Sq.c5 BK101
     obtain ⟨hfz53_0, hfz53_1, hfz53_2, hfz53_3, hfz53_4⟩ := Sq.z5 BK101
     go_wp2
     go_roundg kj20
     case measure => have := HJ1.out; have := HK2.out; have := HJ20.out; omega
     case rel => exact ⟨(wrap64 (x46_2 + 1)), (by first | rfl | (simp; done) | (simp [*]; done)), H', ⟨by have := HJ1.out; have := HK2.out; have := HJ20.out; omega⟩, ⟨Sq.kb BK101⟩, ⟨Sq.kl2 HB GE101 GE107⟩⟩
    rw [if_pos c35] at H
    have c35b0 : decide (0 < (l0_4.length : Int)) = true := decide_eq_true c35
    have c35b1 : decide (0 < l0_4.length) = true := decide_eq_true (by omega)
    clear c35
    by_cases c36 : 0 ≤ x46_2
    rotate_left
    ·
     rw [if_neg c36] at H
     exact absurd H (by simp)
    rw [if_pos c36] at H
    have c36b0 : decide (0 ≤ x46_2) = true := decide_eq_true c36
    clear c36
    by_cases c37 : x46_2 < (l0_4.length : Int)
    rotate_left
    ·
     rw [if_neg c37] at H
     exact absurd H (by simp)
    rw [if_pos c37] at H
    have c37b0 : decide (x46_2 < (l0_4.length : Int)) = true := decide_eq_true c37
    clear c37
    obtain ⟨bq38, hbq38⟩ : ∃ b_ : Bool, b_ = (rdOf false l0_4 x46_2) := ⟨_, rfl⟩
    replace H : (if bq38 = true then (if (l0_3.length : Int) = 0 then (some false) else (if x46_2 < (l0_3.length : Int) then (if rdOf false l0_3 x46_2 = true then (block_Block_kinded.l0 kj20 l0_0 (l0_0.length : Int) (wrap64 (x46_2 + 1)) l0_0 l0_1 l0_2 l0_3 l0_4) else (some false)) else (none))) else (block_Block_kinded.l0 kj20 l0_0 (l0_0.length : Int) (wrap64 (x46_2 + 1)) l0_0 l0_1 l0_2 l0_3 l0_4)) = some r := by rw [← hbq38] at H; exact H
    have Nbq38 := Aside0.mk hbq38
    clear hbq38
    by_cases c39 : bq38 = true
    rotate_left
    ·
     replace c39 := Bool.eq_false_iff.mpr c39
     subst c39
     rw [if_neg (show ¬ (false = true) by decide)] at H
     have H' := Aside0.mk H
     clear H
     have hnb50 := NB101_107.out
     have hnc50 := NB107_101.out
     obtain ⟨hcz51_0, hcz51_1, hcz51_2, hcz51_3, hcz51_4⟩ := Sq.c5 BK101
     obtain ⟨hfz51_0, hfz51_1, hfz51_2, hfz51_3, hfz51_4⟩ := Sq.z5 BK101
     have p109 : 0 ≤ (x46_2 : Int) := of_decide_eq_true (by first | (with_reducible assumption) | assumption)
     have q109 : x46_2 < (l0_4.length : Int) := of_decide_eq_true (by first | (with_reducible assumption) | assumption)
     obtain ⟨ad109, e109, hx109_0⟩ := Kd.at_bool HR0_4.out x46_2 p109 q109
     (try rw [← Nbq38.out] at hx109_0)
     cases e109
     replace hx109_0 := (HB.out.cell (World.block_lt_of_cell? w _ hx109_0)).trans hx109_0
     replace p109 := eq_true p109
     replace q109 := eq_true q109
     go_wp2
     go_roundg kj20
     case measure => have := HJ1.out; have := HK2.out; have := HJ20.out; omega
     case rel => exact ⟨(wrap64 (x46_2 + 1)), (by first | rfl | (simp; done) | (simp [*]; done)), H', ⟨by have := HJ1.out; have := HK2.out; have := HJ20.out; omega⟩, ⟨Sq.kb BK101⟩, ⟨Sq.kl2 HB GE101 GE107⟩⟩
    subst c39
    rw [if_pos rfl] at H
    by_cases c40 : (l0_3.length : Int) = 0
    ·
     rw [if_pos c40] at H
     have c40b0 : ((l0_3.length : Int) == 0) = true := beq_iff_eq.mpr c40
     have c40b1 : ((l0_3.length : Int) != 0) = false := bne_eq_false_iff_eq.mpr c40
     clear c40
     obtain rfl := Option.some.inj H
     have hnb41 := NB101_107.out
     have hnc41 := NB107_101.out
     obtain ⟨hcz42_0, hcz42_1, hcz42_2, hcz42_3, hcz42_4⟩ := Sq.c5 BK101
     obtain ⟨hfz42_0, hfz42_1, hfz42_2, hfz42_3, hfz42_4⟩ := Sq.z5 BK101
     have p109 : 0 ≤ (x46_2 : Int) := of_decide_eq_true (by first | (with_reducible assumption) | assumption)
     have q109 : x46_2 < (l0_4.length : Int) := of_decide_eq_true (by first | (with_reducible assumption) | assumption)
     obtain ⟨ad109, e109, hx109_0⟩ := Kd.at_bool HR0_4.out x46_2 p109 q109
     (try rw [← Nbq38.out] at hx109_0)
     cases e109
     replace hx109_0 := (HB.out.cell (World.block_lt_of_cell? w _ hx109_0)).trans hx109_0
     replace p109 := eq_true p109
     replace q109 := eq_true q109
     go_wp2
     go_ret
     exact ⟨by first | rfl | (simp [errW_none, errW_some] <;> rfl) | (simp [*, errW_none, errW_some] <;> rfl), by repeat (first | (with_reducible first | exact HB.out | apply below_alloc | apply pw_below_drewN | apply below_drew1 | refine below_set ?_ GE101.out | refine below_set ?_ GE107.out) | exact HB.out)⟩
    rw [if_neg c40] at H
    have c40b0 : ((l0_3.length : Int) == 0) = false := beq_eq_false_iff_ne.mpr c40
    have c40b1 : ((l0_3.length : Int) != 0) = true := bne_iff_ne.mpr c40
    have c40b2 : ¬ (l0_3 = []) := fun h_ => c40 (by rw [h_]; rfl)
    by_cases c43 : x46_2 < (l0_3.length : Int)
    rotate_left
    ·
     rw [if_neg c43] at H
     exact absurd H (by simp)
    rw [if_pos c43] at H
    have c43b0 : decide (x46_2 < (l0_3.length : Int)) = true := decide_eq_true c43
    clear c43
    obtain ⟨bq44, hbq44⟩ : ∃ b_ : Bool, b_ = (rdOf false l0_3 x46_2) := ⟨_, rfl⟩
    replace H : (if bq44 = true then (block_Block_kinded.l0 kj20 l0_0 (l0_0.length : Int) (wrap64 (x46_2 + 1)) l0_0 l0_1 l0_2 l0_3 l0_4) else (some false)) = some r := by rw [← hbq44] at H; exact H
    have Nbq44 := Aside0.mk hbq44
    clear hbq44
    by_cases c45 : bq44 = true
    ·
     subst c45
     rw [if_pos rfl] at H
     have H' := Aside0.mk H
     clear H
     have hnb46 := NB101_107.out
     have hnc46 := NB107_101.out
     obtain ⟨hcz47_0, hcz47_1, hcz47_2, hcz47_3, hcz47_4⟩ := Sq.c5 BK101
     obtain ⟨hfz47_0, hfz47_1, hfz47_2, hfz47_3, hfz47_4⟩ := Sq.z5 BK101
     have p109 : 0 ≤ (x46_2 : Int) := of_decide_eq_true (by first | (with_reducible assumption) | assumption)
     have q109 : x46_2 < (l0_4.length : Int) := of_decide_eq_true (by first | (with_reducible assumption) | assumption)
     obtain ⟨ad109, e109, hx109_0⟩ := Kd.at_bool HR0_4.out x46_2 p109 q109
     (try rw [← Nbq38.out] at hx109_0)
     (try rw [← Nbq44.out] at hx109_0)
     cases e109
     replace hx109_0 := (HB.out.cell (World.block_lt_of_cell? w _ hx109_0)).trans hx109_0
     replace p109 := eq_true p109
     replace q109 := eq_true q109
     have p110 : 0 ≤ (x46_2 : Int) := of_decide_eq_true (by first | (with_reducible assumption) | assumption)
     have q110 : x46_2 < (l0_3.length : Int) := of_decide_eq_true (by first | (with_reducible assumption) | assumption)
     obtain ⟨ad110, e110, hx110_0⟩ := Kd.at_bool HR0_3.out x46_2 p110 q110
     (try rw [← Nbq38.out] at hx110_0)
     (try rw [← Nbq44.out] at hx110_0)
     cases e110
     replace hx110_0 := (HB.out.cell (World.block_lt_of_cell? w _ hx110_0)).trans hx110_0
     replace p110 := eq_true p110
     replace q110 := eq_true q110
     go_wp2
     go_roundg kj20
     case measure => have := HJ1.out; have := HK2.out; have := HJ20.out; omega
     case rel => exact ⟨(wrap64 (x46_2 + 1)), (by first | rfl | (simp; done) | (simp [*]; done)), H', ⟨by have := HJ1.out; have := HK2.out; have := HJ20.out; omega⟩, ⟨Sq.kb BK101⟩, ⟨Sq.kl2 HB GE101 GE107⟩⟩
    replace c45 := Bool.eq_false_iff.mpr c45
    subst c45
    rw [if_neg (show ¬ (false = true) by decide)] at H
    obtain rfl := Option.some.inj H
    have hnb48 := NB101_107.out
    have hnc48 := NB107_101.out
    obtain ⟨hcz49_0, hcz49_1, hcz49_2, hcz49_3, hcz49_4⟩ := Sq.c5 BK101
    obtain ⟨hfz49_0, hfz49_1, hfz49_2, hfz49_3, hfz49_4⟩ := Sq.z5 BK101
    have p109 : 0 ≤ (x46_2 : Int) := of_decide_eq_true (by first | (with_reducible assumption) | assumption)
    have q109 : x46_2 < (l0_4.length : Int) := of_decide_eq_true (by first | (with_reducible assumption) | assumption)
    obtain ⟨ad109, e109, hx109_0⟩ := Kd.at_bool HR0_4.out x46_2 p109 q109
    (try rw [← Nbq38.out] at hx109_0)
    (try rw [← Nbq44.out] at hx109_0)
    cases e109
    replace hx109_0 := (HB.out.cell (World.block_lt_of_cell? w _ hx109_0)).trans hx109_0
    replace p109 := eq_true p109
    replace q109 := eq_true q109
    have p110 : 0 ≤ (x46_2 : Int) := of_decide_eq_true (by first | (with_reducible assumption) | assumption)
    have q110 : x46_2 < (l0_3.length : Int) := of_decide_eq_true (by first | (with_reducible assumption) | assumption)
    obtain ⟨ad110, e110, hx110_0⟩ := Kd.at_bool HR0_3.out x46_2 p110 q110
    (try rw [← Nbq38.out] at hx110_0)
    (try rw [← Nbq44.out] at hx110_0)
    cases e110
    replace hx110_0 := (HB.out.cell (World.block_lt_of_cell? w _ hx110_0)).trans hx110_0
    replace p110 := eq_true p110
    replace q110 := eq_true q110
    go_wp2
    go_ret
    exact ⟨by first | rfl | (simp [errW_none, errW_some] <;> rfl) | (simp [*, errW_none, errW_some] <;> rfl), by repeat (first | (with_reducible first | exact HB.out | apply below_alloc | apply pw_below_drewN | apply below_drew1 | refine below_set ?_ GE101.out | refine below_set ?_ GE107.out) | exact HB.out)⟩
end Go.Proofs.Ythobnoknbdljgaa.PK
end
section
namespace Go.Proofs.Ythobnoknbdljgaa.PK
open Go.Proofs.Ythobnoknbdljgaa.PB0 Sq
open Go.RowKit Go.Proofs.Ythobnoknbdljgaa.Stub Go.Proofs.Ythobnoknbdljgaa.Hand Go.Proofs.YthobnoknbdljgaaW.PrintWords Go.Proofs.YthobnoknbdljgaaW.PrintLast Go.Proofs.YthobnoknbdljgaaW.PrintMore
attribute [local go_sem] max2_int min2_int max_two min_two
set_option linter.unusedVariables false
set_option linter.unusedSimpArgs false
def block_Right.f (k : Nat) (l0_0 : List (S56)) (l0_1 : List (S54)) (l0_2 : List (S67)) (l0_3 : List Bool) (l0_4 : List Bool) (a1 : Int) (a2 : Int) : Option (Bool) := if a1 = 4 then ((block_Block_kinded.f k l0_0 l0_1 l0_2 l0_3 l0_4).bind fun t112 => (if t112 = true then ((block_Block_jumped.f l0_0 l0_1 l0_2 l0_3 l0_4 a1).bind fun t113 => (if t113 = true then ((block_Block_leaped.f l0_0 l0_1 l0_2 l0_3 l0_4 a1 a2).bind fun t114 => (some t114)) else (some false))) else (some false))) else (if a1 = 8 then ((block_Block_kinded.f k l0_0 l0_1 l0_2 l0_3 l0_4).bind fun t115 => (if t115 = true then ((block_Block_jumped.f l0_0 l0_1 l0_2 l0_3 l0_4 a1).bind fun t116 => (if t116 = true then ((block_Block_leaped.f l0_0 l0_1 l0_2 l0_3 l0_4 a1 a2).bind fun t117 => (some t117)) else (some false))) else (some false))) else (some false))
set_option maxHeartbeats 8000000 in
set_option maxRecDepth 100000 in
theorem block_Right.calls (k : Nat) (A0_0 : Option Addr) (c0_0 : Nat) (l0_0 : List (S56)) (A0_1 : Option Addr) (c0_1 : Nat) (l0_1 : List (S54)) (A0_2 : Option Addr) (c0_2 : Nat) (l0_2 : List (S67)) (A0_3 : Option Addr) (c0_3 : Nat) (l0_3 : List Bool) (A0_4 : Option Addr) (c0_4 : Nat) (l0_4 : List Bool) (a1 : Int) (a2 : Int) (r : Bool) (w : World) (hr0_0 : Kd.C k56 w A0_0 l0_0.length l0_0) (hc0_0 : l0_0.length ≤ c0_0) (hr0_1 : Kd.C k54 w A0_1 l0_1.length l0_1) (hc0_1 : l0_1.length ≤ c0_1) (hr0_2 : Kd.C k67 w A0_2 l0_2.length l0_2) (hc0_2 : l0_2.length ≤ c0_2) (hr0_3 : Kd.C Kd.bool w A0_3 l0_3.length l0_3) (hc0_3 : l0_3.length ≤ c0_3) (hr0_4 : Kd.C Kd.bool w A0_4 l0_4.length l0_4) (hc0_4 : l0_4.length ≤ c0_4) (h : block_Right.f k l0_0 l0_1 l0_2 l0_3 l0_4 a1 a2 = some r) :
  Calls Try.prog 16 #[.agg #[.slice A0_0 l0_0.length c0_0, .slice A0_1 l0_1.length c0_1, .slice A0_2 l0_2.length c0_2, .slice A0_3 l0_3.length c0_3, .slice A0_4 l0_4.length c0_4], .int .i64 a1, .int .i64 a2] w fun e w' => e = .returned (.bool r) ∧ Below w.heap.size w w' := by
 have hu27 := Try.underlying27
 have HR0_0 := Aside0.mk hr0_0
 have HC0_0 := Aside0.mk hc0_0
 clear hr0_0 hc0_0
 have HR0_1 := Aside0.mk hr0_1
 have HC0_1 := Aside0.mk hc0_1
 clear hr0_1 hc0_1
 have HR0_2 := Aside0.mk hr0_2
 have HC0_2 := Aside0.mk hc0_2
 clear hr0_2 hc0_2
 have HR0_3 := Aside0.mk hr0_3
 have HC0_3 := Aside0.mk hc0_3
 clear hr0_3 hc0_3
 have HR0_4 := Aside0.mk hr0_4
 have HC0_4 := Aside0.mk hc0_4
 clear hr0_4 hc0_4
 have HB := Aside0.mk (Below.refl w.heap.size w)
 have H : (if a1 = 4 then ((block_Block_kinded.f k l0_0 l0_1 l0_2 l0_3 l0_4).bind fun t112 => (if t112 = true then ((block_Block_jumped.f l0_0 l0_1 l0_2 l0_3 l0_4 a1).bind fun t113 => (if t113 = true then ((block_Block_leaped.f l0_0 l0_1 l0_2 l0_3 l0_4 a1 a2).bind fun t114 => (some t114)) else (some false))) else (some false))) else (if a1 = 8 then ((block_Block_kinded.f k l0_0 l0_1 l0_2 l0_3 l0_4).bind fun t115 => (if t115 = true then ((block_Block_jumped.f l0_0 l0_1 l0_2 l0_3 l0_4 a1).bind fun t116 => (if t116 = true then ((block_Block_leaped.f l0_0 l0_1 l0_2 l0_3 l0_4 a1 a2).bind fun t117 => (some t117)) else (some false))) else (some false))) else (some false))) = some r := h
 clear h
 by_cases c4 : a1 = 4
 ·
  rw [if_pos c4] at H
  have c4b0 : (a1 == 4) = true := beq_iff_eq.mpr c4
  have c4b1 : (a1 != 4) = false := bne_eq_false_iff_eq.mpr c4
  clear c4
  replace H := Option.bind_eq_some_iff.mp H
  obtain ⟨t112, A50, H⟩ := H
  replace H : (if t112 = true then ((block_Block_jumped.f l0_0 l0_1 l0_2 l0_3 l0_4 a1).bind fun t113 => (if t113 = true then ((block_Block_leaped.f l0_0 l0_1 l0_2 l0_3 l0_4 a1 a2).bind fun t114 => (some t114)) else (some false))) else (some false)) = some r := H
  have A5 := Aside0.mk A50
  clear A50
  by_cases c6 : t112 = true
  rotate_left
  ·
   replace c6 := Bool.eq_false_iff.mpr c6
   subst c6
   rw [if_neg (show ¬ (false = true) by decide)] at H
   obtain rfl := Option.some.inj H
   go_enter Try.func16, Try.ntmps16
   go_wp2_with (first | ((with_reducible refine gate_dst (N := 3) rfl ?_); refine box_event ?hg (N := 3) ?hd (cs := #[.slice A0_0 l0_0.length c0_0, .slice A0_1 l0_1.length c0_1, .slice A0_2 l0_2.length c0_2, .slice A0_3 l0_3.length c0_3, .slice A0_4 l0_4.length c0_4]) (t := 27) ?hr ?_; (case hd => rfl); (case hg => rfl); (case hr => first | (go_simp; done) | (go_simp; rfl)); intro gb111 hg w22 hbox hb; have BK111 := Aside0.mk (hbox); have GW111 := Aside0.mk ((by rw [hg]; exact (below_size (Sq.kl HB)) : w.heap.size ≤ gb111)); have GE111 := Aside0.mk ((by rw [hg]; exact (below_size (Sq.kl HB)) : w.heap.size ≤ gb111)); replace HB := Aside0.mk (below_step (Sq.kl HB) hb); clear hb hbox hg; obtain ⟨hcz23_0, hcz23_1, hcz23_2, hcz23_3, hcz23_4⟩ := Sq.c5 BK111; obtain ⟨hfz23_0, hfz23_1, hfz23_2, hfz23_3, hfz23_4⟩ := Sq.z5 BK111) | (go_at_call 30; (with_reducible refine (block_Block_kinded.calls k _ _ l0_0 _ _ l0_1 _ _ l0_2 _ _ l0_3 _ _ l0_4 false _ ?side1 ?side2 ?side3 ?side4 ?side5 ?side6 ?side7 ?side8 ?side9 ?side10 A5.out).mono ?_); (case side1 => exact Sq.qd HR0_0 HB); (case side2 => exact HC0_0.out); (case side3 => exact Sq.qd HR0_1 HB); (case side4 => exact HC0_1.out); (case side5 => exact Sq.qd HR0_2 HB); (case side6 => exact HC0_2.out); (case side7 => exact Sq.qd HR0_3 HB); (case side8 => exact HC0_3.out); (case side9 => exact Sq.qd HR0_4 HB); (case side10 => exact HC0_4.out); rintro e w24 ⟨rfl, hb⟩; replace BK111 := kbb BK111 hb; replace HB := Aside0.mk (below_step (Sq.kl1 HB GE111) hb); (try clear hb)))
   go_ret
   exact ⟨by first | rfl | (simp [errW_none, errW_some] <;> rfl) | (simp [*, errW_none, errW_some] <;> rfl), by repeat (first | (with_reducible first | exact HB.out | apply below_alloc | apply pw_below_drewN | apply below_drew1 | refine below_set ?_ GE111.out) | exact HB.out)⟩
  subst c6
  rw [if_pos rfl] at H
  replace H := Option.bind_eq_some_iff.mp H
  obtain ⟨t113, A70, H⟩ := H
  replace H : (if t113 = true then ((block_Block_leaped.f l0_0 l0_1 l0_2 l0_3 l0_4 a1 a2).bind fun t114 => (some t114)) else (some false)) = some r := H
  have A7 := Aside0.mk A70
  clear A70
  by_cases c8 : t113 = true
  rotate_left
  ·
   replace c8 := Bool.eq_false_iff.mpr c8
   subst c8
   rw [if_neg (show ¬ (false = true) by decide)] at H
   obtain rfl := Option.some.inj H
   go_enter Try.func16, Try.ntmps16
   go_wp2_with (first | ((with_reducible refine gate_dst (N := 3) rfl ?_); refine box_event ?hg (N := 3) ?hd (cs := #[.slice A0_0 l0_0.length c0_0, .slice A0_1 l0_1.length c0_1, .slice A0_2 l0_2.length c0_2, .slice A0_3 l0_3.length c0_3, .slice A0_4 l0_4.length c0_4]) (t := 27) ?hr ?_; (case hd => rfl); (case hg => rfl); (case hr => first | (go_simp; done) | (go_simp; rfl)); intro gb111 hg w17 hbox hb; have BK111 := Aside0.mk (hbox); have GW111 := Aside0.mk ((by rw [hg]; exact (below_size (Sq.kl HB)) : w.heap.size ≤ gb111)); have GE111 := Aside0.mk ((by rw [hg]; exact (below_size (Sq.kl HB)) : w.heap.size ≤ gb111)); replace HB := Aside0.mk (below_step (Sq.kl HB) hb); clear hb hbox hg; obtain ⟨hcz18_0, hcz18_1, hcz18_2, hcz18_3, hcz18_4⟩ := Sq.c5 BK111; obtain ⟨hfz18_0, hfz18_1, hfz18_2, hfz18_3, hfz18_4⟩ := Sq.z5 BK111) | (go_at_call 30; (with_reducible refine (block_Block_kinded.calls k _ _ l0_0 _ _ l0_1 _ _ l0_2 _ _ l0_3 _ _ l0_4 true _ ?side1 ?side2 ?side3 ?side4 ?side5 ?side6 ?side7 ?side8 ?side9 ?side10 A5.out).mono ?_); (case side1 => exact Sq.qd HR0_0 HB); (case side2 => exact HC0_0.out); (case side3 => exact Sq.qd HR0_1 HB); (case side4 => exact HC0_1.out); (case side5 => exact Sq.qd HR0_2 HB); (case side6 => exact HC0_2.out); (case side7 => exact Sq.qd HR0_3 HB); (case side8 => exact HC0_3.out); (case side9 => exact Sq.qd HR0_4 HB); (case side10 => exact HC0_4.out); rintro e w19 ⟨rfl, hb⟩; replace BK111 := kbb BK111 hb; replace HB := Aside0.mk (below_step (Sq.kl1 HB GE111) hb); (try clear hb); obtain ⟨hcz20_0, hcz20_1, hcz20_2, hcz20_3, hcz20_4⟩ := Sq.c5 BK111; obtain ⟨hfz20_0, hfz20_1, hfz20_2, hfz20_3, hfz20_4⟩ := Sq.z5 BK111) | (go_at_call 31; (with_reducible refine (block_Block_jumped.calls _ _ l0_0 _ _ l0_1 _ _ l0_2 _ _ l0_3 _ _ l0_4 a1 false _ ?side1 ?side2 ?side3 ?side4 ?side5 ?side6 ?side7 ?side8 ?side9 ?side10 A7.out).mono ?_); (case side1 => exact Sq.qd HR0_0 HB); (case side2 => exact HC0_0.out); (case side3 => exact Sq.qd HR0_1 HB); (case side4 => exact HC0_1.out); (case side5 => exact Sq.qd HR0_2 HB); (case side6 => exact HC0_2.out); (case side7 => exact Sq.qd HR0_3 HB); (case side8 => exact HC0_3.out); (case side9 => exact Sq.qd HR0_4 HB); (case side10 => exact HC0_4.out); rintro e w21 ⟨rfl, hb⟩; replace BK111 := kbb BK111 hb; replace HB := Aside0.mk (below_step (Sq.kl1 HB GE111) hb); (try clear hb)))
   go_ret
   exact ⟨by first | rfl | (simp [errW_none, errW_some] <;> rfl) | (simp [*, errW_none, errW_some] <;> rfl), by repeat (first | (with_reducible first | exact HB.out | apply below_alloc | apply pw_below_drewN | apply below_drew1 | refine below_set ?_ GE111.out) | exact HB.out)⟩
  subst c8
  rw [if_pos rfl] at H
  replace H := Option.bind_eq_some_iff.mp H
  obtain ⟨t114, A90, H⟩ := H
  replace H : (some t114) = some r := H
  have A9 := Aside0.mk A90
  clear A90
  obtain rfl := Option.some.inj H
  go_enter Try.func16, Try.ntmps16
  go_wp2_with (first | ((with_reducible refine gate_dst (N := 3) rfl ?_); refine box_event ?hg (N := 3) ?hd (cs := #[.slice A0_0 l0_0.length c0_0, .slice A0_1 l0_1.length c0_1, .slice A0_2 l0_2.length c0_2, .slice A0_3 l0_3.length c0_3, .slice A0_4 l0_4.length c0_4]) (t := 27) ?hr ?_; (case hd => rfl); (case hg => rfl); (case hr => first | (go_simp; done) | (go_simp; rfl)); intro gb111 hg w10 hbox hb; have BK111 := Aside0.mk (hbox); have GW111 := Aside0.mk ((by rw [hg]; exact (below_size (Sq.kl HB)) : w.heap.size ≤ gb111)); have GE111 := Aside0.mk ((by rw [hg]; exact (below_size (Sq.kl HB)) : w.heap.size ≤ gb111)); replace HB := Aside0.mk (below_step (Sq.kl HB) hb); clear hb hbox hg; obtain ⟨hcz11_0, hcz11_1, hcz11_2, hcz11_3, hcz11_4⟩ := Sq.c5 BK111; obtain ⟨hfz11_0, hfz11_1, hfz11_2, hfz11_3, hfz11_4⟩ := Sq.z5 BK111) | (go_at_call 30; (with_reducible refine (block_Block_kinded.calls k _ _ l0_0 _ _ l0_1 _ _ l0_2 _ _ l0_3 _ _ l0_4 true _ ?side1 ?side2 ?side3 ?side4 ?side5 ?side6 ?side7 ?side8 ?side9 ?side10 A5.out).mono ?_); (case side1 => exact Sq.qd HR0_0 HB); (case side2 => exact HC0_0.out); (case side3 => exact Sq.qd HR0_1 HB); (case side4 => exact HC0_1.out); (case side5 => exact Sq.qd HR0_2 HB); (case side6 => exact HC0_2.out); (case side7 => exact Sq.qd HR0_3 HB); (case side8 => exact HC0_3.out); (case side9 => exact Sq.qd HR0_4 HB); (case side10 => exact HC0_4.out); rintro e w12 ⟨rfl, hb⟩; replace BK111 := kbb BK111 hb; replace HB := Aside0.mk (below_step (Sq.kl1 HB GE111) hb); (try clear hb); obtain ⟨hcz13_0, hcz13_1, hcz13_2, hcz13_3, hcz13_4⟩ := Sq.c5 BK111; obtain ⟨hfz13_0, hfz13_1, hfz13_2, hfz13_3, hfz13_4⟩ := Sq.z5 BK111) | (go_at_call 31; (with_reducible refine (block_Block_jumped.calls _ _ l0_0 _ _ l0_1 _ _ l0_2 _ _ l0_3 _ _ l0_4 a1 true _ ?side1 ?side2 ?side3 ?side4 ?side5 ?side6 ?side7 ?side8 ?side9 ?side10 A7.out).mono ?_); (case side1 => exact Sq.qd HR0_0 HB); (case side2 => exact HC0_0.out); (case side3 => exact Sq.qd HR0_1 HB); (case side4 => exact HC0_1.out); (case side5 => exact Sq.qd HR0_2 HB); (case side6 => exact HC0_2.out); (case side7 => exact Sq.qd HR0_3 HB); (case side8 => exact HC0_3.out); (case side9 => exact Sq.qd HR0_4 HB); (case side10 => exact HC0_4.out); rintro e w14 ⟨rfl, hb⟩; replace BK111 := kbb BK111 hb; replace HB := Aside0.mk (below_step (Sq.kl1 HB GE111) hb); (try clear hb); obtain ⟨hcz15_0, hcz15_1, hcz15_2, hcz15_3, hcz15_4⟩ := Sq.c5 BK111; obtain ⟨hfz15_0, hfz15_1, hfz15_2, hfz15_3, hfz15_4⟩ := Sq.z5 BK111) | (go_at_call 32; (with_reducible refine (block_Block_leaped.calls _ _ l0_0 _ _ l0_1 _ _ l0_2 _ _ l0_3 _ _ l0_4 a1 a2 t114 _ ?side1 ?side2 ?side3 ?side4 ?side5 ?side6 ?side7 ?side8 ?side9 ?side10 A9.out).mono ?_); (case side1 => exact Sq.qd HR0_0 HB); (case side2 => exact HC0_0.out); (case side3 => exact Sq.qd HR0_1 HB); (case side4 => exact HC0_1.out); (case side5 => exact Sq.qd HR0_2 HB); (case side6 => exact HC0_2.out); (case side7 => exact Sq.qd HR0_3 HB); (case side8 => exact HC0_3.out); (case side9 => exact Sq.qd HR0_4 HB); (case side10 => exact HC0_4.out); rintro e w16 ⟨rfl, hb⟩; replace BK111 := kbb BK111 hb; replace HB := Aside0.mk (below_step (Sq.kl1 HB GE111) hb); (try clear hb)))
  go_ret
  exact ⟨by first | rfl | (simp [errW_none, errW_some] <;> rfl) | (simp [*, errW_none, errW_some] <;> rfl), by repeat (first | (with_reducible first | exact HB.out | apply below_alloc | apply pw_below_drewN | apply below_drew1 | refine below_set ?_ GE111.out) | exact HB.out)⟩
 rw [if_neg c4] at H
 have c4b0 : (a1 == 4) = false := beq_eq_false_iff_ne.mpr c4
 have c4b1 : (a1 != 4) = true := bne_iff_ne.mpr c4
 by_cases c25 : a1 = 8
 rotate_left
 ·
  rw [if_neg c25] at H
  have c25b0 : (a1 == 8) = false := beq_eq_false_iff_ne.mpr c25
  have c25b1 : (a1 != 8) = true := bne_iff_ne.mpr c25
  obtain rfl := Option.some.inj H
  go_enter Try.func16, Try.ntmps16
  go_wp2_with (first | ((with_reducible refine gate_dst (N := 3) rfl ?_); refine box_event ?hg (N := 3) ?hd (cs := #[.slice A0_0 l0_0.length c0_0, .slice A0_1 l0_1.length c0_1, .slice A0_2 l0_2.length c0_2, .slice A0_3 l0_3.length c0_3, .slice A0_4 l0_4.length c0_4]) (t := 27) ?hr ?_; (case hd => rfl); (case hg => rfl); (case hr => first | (go_simp; done) | (go_simp; rfl)); intro gb111 hg w46 hbox hb; have BK111 := Aside0.mk (hbox); have GW111 := Aside0.mk ((by rw [hg]; exact (below_size (Sq.kl HB)) : w.heap.size ≤ gb111)); have GE111 := Aside0.mk ((by rw [hg]; exact (below_size (Sq.kl HB)) : w.heap.size ≤ gb111)); replace HB := Aside0.mk (below_step (Sq.kl HB) hb); clear hb hbox hg))
  go_ret
  exact ⟨by first | rfl | (simp [errW_none, errW_some] <;> rfl) | (simp [*, errW_none, errW_some] <;> rfl), by repeat (first | (with_reducible first | exact HB.out | apply below_alloc | apply pw_below_drewN | apply below_drew1 | refine below_set ?_ GE111.out) | exact HB.out)⟩
 rw [if_pos c25] at H
 have c25b0 : (a1 == 8) = true := beq_iff_eq.mpr c25
 have c25b1 : (a1 != 8) = false := bne_eq_false_iff_eq.mpr c25
 clear c25
 replace H := Option.bind_eq_some_iff.mp H
 obtain ⟨t115, A260, H⟩ := H
 replace H : (if t115 = true then ((block_Block_jumped.f l0_0 l0_1 l0_2 l0_3 l0_4 a1).bind fun t116 => (if t116 = true then ((block_Block_leaped.f l0_0 l0_1 l0_2 l0_3 l0_4 a1 a2).bind fun t117 => (some t117)) else (some false))) else (some false)) = some r := H
 have A26 := Aside0.mk A260
 clear A260
 by_cases c27 : t115 = true
 rotate_left
 ·
  replace c27 := Bool.eq_false_iff.mpr c27
  subst c27
  rw [if_neg (show ¬ (false = true) by decide)] at H
  obtain rfl := Option.some.inj H
  go_enter Try.func16, Try.ntmps16
  go_wp2_with (first | ((with_reducible refine gate_dst (N := 3) rfl ?_); refine box_event ?hg (N := 3) ?hd (cs := #[.slice A0_0 l0_0.length c0_0, .slice A0_1 l0_1.length c0_1, .slice A0_2 l0_2.length c0_2, .slice A0_3 l0_3.length c0_3, .slice A0_4 l0_4.length c0_4]) (t := 27) ?hr ?_; (case hd => rfl); (case hg => rfl); (case hr => first | (go_simp; done) | (go_simp; rfl)); intro gb111 hg w43 hbox hb; have BK111 := Aside0.mk (hbox); have GW111 := Aside0.mk ((by rw [hg]; exact (below_size (Sq.kl HB)) : w.heap.size ≤ gb111)); have GE111 := Aside0.mk ((by rw [hg]; exact (below_size (Sq.kl HB)) : w.heap.size ≤ gb111)); replace HB := Aside0.mk (below_step (Sq.kl HB) hb); clear hb hbox hg; obtain ⟨hcz44_0, hcz44_1, hcz44_2, hcz44_3, hcz44_4⟩ := Sq.c5 BK111; obtain ⟨hfz44_0, hfz44_1, hfz44_2, hfz44_3, hfz44_4⟩ := Sq.z5 BK111) | (go_at_call 30; (with_reducible refine (block_Block_kinded.calls k _ _ l0_0 _ _ l0_1 _ _ l0_2 _ _ l0_3 _ _ l0_4 false _ ?side1 ?side2 ?side3 ?side4 ?side5 ?side6 ?side7 ?side8 ?side9 ?side10 A26.out).mono ?_); (case side1 => exact Sq.qd HR0_0 HB); (case side2 => exact HC0_0.out); (case side3 => exact Sq.qd HR0_1 HB); (case side4 => exact HC0_1.out); (case side5 => exact Sq.qd HR0_2 HB); (case side6 => exact HC0_2.out); (case side7 => exact Sq.qd HR0_3 HB); (case side8 => exact HC0_3.out); (case side9 => exact Sq.qd HR0_4 HB); (case side10 => exact HC0_4.out); rintro e w45 ⟨rfl, hb⟩; replace BK111 := kbb BK111 hb; replace HB := Aside0.mk (below_step (Sq.kl1 HB GE111) hb); (try clear hb)))
  go_ret
  exact ⟨by first | rfl | (simp [errW_none, errW_some] <;> rfl) | (simp [*, errW_none, errW_some] <;> rfl), by repeat (first | (with_reducible first | exact HB.out | apply below_alloc | apply pw_below_drewN | apply below_drew1 | refine below_set ?_ GE111.out) | exact HB.out)⟩
 subst c27
 rw [if_pos rfl] at H
 replace H := Option.bind_eq_some_iff.mp H
 obtain ⟨t116, A280, H⟩ := H
 replace H : (if t116 = true then ((block_Block_leaped.f l0_0 l0_1 l0_2 l0_3 l0_4 a1 a2).bind fun t117 => (some t117)) else (some false)) = some r := H
 have A28 := Aside0.mk A280
 clear A280
 by_cases c29 : t116 = true
 rotate_left
 ·
  replace c29 := Bool.eq_false_iff.mpr c29
  subst c29
  rw [if_neg (show ¬ (false = true) by decide)] at H
  obtain rfl := Option.some.inj H
  go_enter Try.func16, Try.ntmps16
  go_wp2_with (first | ((with_reducible refine gate_dst (N := 3) rfl ?_); refine box_event ?hg (N := 3) ?hd (cs := #[.slice A0_0 l0_0.length c0_0, .slice A0_1 l0_1.length c0_1, .slice A0_2 l0_2.length c0_2, .slice A0_3 l0_3.length c0_3, .slice A0_4 l0_4.length c0_4]) (t := 27) ?hr ?_; (case hd => rfl); (case hg => rfl); (case hr => first | (go_simp; done) | (go_simp; rfl)); intro gb111 hg w38 hbox hb; have BK111 := Aside0.mk (hbox); have GW111 := Aside0.mk ((by rw [hg]; exact (below_size (Sq.kl HB)) : w.heap.size ≤ gb111)); have GE111 := Aside0.mk ((by rw [hg]; exact (below_size (Sq.kl HB)) : w.heap.size ≤ gb111)); replace HB := Aside0.mk (below_step (Sq.kl HB) hb); clear hb hbox hg; obtain ⟨hcz39_0, hcz39_1, hcz39_2, hcz39_3, hcz39_4⟩ := Sq.c5 BK111; obtain ⟨hfz39_0, hfz39_1, hfz39_2, hfz39_3, hfz39_4⟩ := Sq.z5 BK111) | (go_at_call 30; (with_reducible refine (block_Block_kinded.calls k _ _ l0_0 _ _ l0_1 _ _ l0_2 _ _ l0_3 _ _ l0_4 true _ ?side1 ?side2 ?side3 ?side4 ?side5 ?side6 ?side7 ?side8 ?side9 ?side10 A26.out).mono ?_); (case side1 => exact Sq.qd HR0_0 HB); (case side2 => exact HC0_0.out); (case side3 => exact Sq.qd HR0_1 HB); (case side4 => exact HC0_1.out); (case side5 => exact Sq.qd HR0_2 HB); (case side6 => exact HC0_2.out); (case side7 => exact Sq.qd HR0_3 HB); (case side8 => exact HC0_3.out); (case side9 => exact Sq.qd HR0_4 HB); (case side10 => exact HC0_4.out); rintro e w40 ⟨rfl, hb⟩; replace BK111 := kbb BK111 hb; replace HB := Aside0.mk (below_step (Sq.kl1 HB GE111) hb); (try clear hb); obtain ⟨hcz41_0, hcz41_1, hcz41_2, hcz41_3, hcz41_4⟩ := Sq.c5 BK111; obtain ⟨hfz41_0, hfz41_1, hfz41_2, hfz41_3, hfz41_4⟩ := Sq.z5 BK111) | (go_at_call 31; (with_reducible refine (block_Block_jumped.calls _ _ l0_0 _ _ l0_1 _ _ l0_2 _ _ l0_3 _ _ l0_4 a1 false _ ?side1 ?side2 ?side3 ?side4 ?side5 ?side6 ?side7 ?side8 ?side9 ?side10 A28.out).mono ?_); (case side1 => exact Sq.qd HR0_0 HB); (case side2 => exact HC0_0.out); (case side3 => exact Sq.qd HR0_1 HB); (case side4 => exact HC0_1.out); (case side5 => exact Sq.qd HR0_2 HB); (case side6 => exact HC0_2.out); (case side7 => exact Sq.qd HR0_3 HB); (case side8 => exact HC0_3.out); (case side9 => exact Sq.qd HR0_4 HB); (case side10 => exact HC0_4.out); rintro e w42 ⟨rfl, hb⟩; replace BK111 := kbb BK111 hb; replace HB := Aside0.mk (below_step (Sq.kl1 HB GE111) hb); (try clear hb)))
  go_ret
  exact ⟨by first | rfl | (simp [errW_none, errW_some] <;> rfl) | (simp [*, errW_none, errW_some] <;> rfl), by repeat (first | (with_reducible first | exact HB.out | apply below_alloc | apply pw_below_drewN | apply below_drew1 | refine below_set ?_ GE111.out) | exact HB.out)⟩
 subst c29
 rw [if_pos rfl] at H
 replace H := Option.bind_eq_some_iff.mp H
 obtain ⟨t117, A300, H⟩ := H
 replace H : (some t117) = some r := H
 have A30 := Aside0.mk A300
 clear A300
 obtain rfl := Option.some.inj H
 go_enter Try.func16, Try.ntmps16
 go_wp2_with (first | ((with_reducible refine gate_dst (N := 3) rfl ?_); refine box_event ?hg (N := 3) ?hd (cs := #[.slice A0_0 l0_0.length c0_0, .slice A0_1 l0_1.length c0_1, .slice A0_2 l0_2.length c0_2, .slice A0_3 l0_3.length c0_3, .slice A0_4 l0_4.length c0_4]) (t := 27) ?hr ?_; (case hd => rfl); (case hg => rfl); (case hr => first | (go_simp; done) | (go_simp; rfl)); intro gb111 hg w31 hbox hb; have BK111 := Aside0.mk (hbox); have GW111 := Aside0.mk ((by rw [hg]; exact (below_size (Sq.kl HB)) : w.heap.size ≤ gb111)); have GE111 := Aside0.mk ((by rw [hg]; exact (below_size (Sq.kl HB)) : w.heap.size ≤ gb111)); replace HB := Aside0.mk (below_step (Sq.kl HB) hb); clear hb hbox hg; obtain ⟨hcz32_0, hcz32_1, hcz32_2, hcz32_3, hcz32_4⟩ := Sq.c5 BK111; obtain ⟨hfz32_0, hfz32_1, hfz32_2, hfz32_3, hfz32_4⟩ := Sq.z5 BK111) | (go_at_call 30; (with_reducible refine (block_Block_kinded.calls k _ _ l0_0 _ _ l0_1 _ _ l0_2 _ _ l0_3 _ _ l0_4 true _ ?side1 ?side2 ?side3 ?side4 ?side5 ?side6 ?side7 ?side8 ?side9 ?side10 A26.out).mono ?_); (case side1 => exact Sq.qd HR0_0 HB); (case side2 => exact HC0_0.out); (case side3 => exact Sq.qd HR0_1 HB); (case side4 => exact HC0_1.out); (case side5 => exact Sq.qd HR0_2 HB); (case side6 => exact HC0_2.out); (case side7 => exact Sq.qd HR0_3 HB); (case side8 => exact HC0_3.out); (case side9 => exact Sq.qd HR0_4 HB); (case side10 => exact HC0_4.out); rintro e w33 ⟨rfl, hb⟩; replace BK111 := kbb BK111 hb; replace HB := Aside0.mk (below_step (Sq.kl1 HB GE111) hb); (try clear hb); obtain ⟨hcz34_0, hcz34_1, hcz34_2, hcz34_3, hcz34_4⟩ := Sq.c5 BK111; obtain ⟨hfz34_0, hfz34_1, hfz34_2, hfz34_3, hfz34_4⟩ := Sq.z5 BK111) | (go_at_call 31; (with_reducible refine (block_Block_jumped.calls _ _ l0_0 _ _ l0_1 _ _ l0_2 _ _ l0_3 _ _ l0_4 a1 true _ ?side1 ?side2 ?side3 ?side4 ?side5 ?side6 ?side7 ?side8 ?side9 ?side10 A28.out).mono ?_); (case side1 => exact Sq.qd HR0_0 HB); (case side2 => exact HC0_0.out); (case side3 => exact Sq.qd HR0_1 HB); (case side4 => exact HC0_1.out); (case side5 => exact Sq.qd HR0_2 HB); (case side6 => exact HC0_2.out); (case side7 => exact Sq.qd HR0_3 HB); (case side8 => exact HC0_3.out); (case side9 => exact Sq.qd HR0_4 HB); (case side10 => exact HC0_4.out); rintro e w35 ⟨rfl, hb⟩; replace BK111 := kbb BK111 hb; replace HB := Aside0.mk (below_step (Sq.kl1 HB GE111) hb); (try clear hb); obtain ⟨hcz36_0, hcz36_1, hcz36_2, hcz36_3, hcz36_4⟩ := Sq.c5 BK111; obtain ⟨hfz36_0, hfz36_1, hfz36_2, hfz36_3, hfz36_4⟩ := Sq.z5 BK111) | (go_at_call 32; (with_reducible refine (block_Block_leaped.calls _ _ l0_0 _ _ l0_1 _ _ l0_2 _ _ l0_3 _ _ l0_4 a1 a2 t117 _ ?side1 ?side2 ?side3 ?side4 ?side5 ?side6 ?side7 ?side8 ?side9 ?side10 A30.out).mono ?_); (case side1 => exact Sq.qd HR0_0 HB); (case side2 => exact HC0_0.out); (case side3 => exact Sq.qd HR0_1 HB); (case side4 => exact HC0_1.out); (case side5 => exact Sq.qd HR0_2 HB); (case side6 => exact HC0_2.out); (case side7 => exact Sq.qd HR0_3 HB); (case side8 => exact HC0_3.out); (case side9 => exact Sq.qd HR0_4 HB); (case side10 => exact HC0_4.out); rintro e w37 ⟨rfl, hb⟩; replace BK111 := kbb BK111 hb; replace HB := Aside0.mk (below_step (Sq.kl1 HB GE111) hb); (try clear hb)))
 go_ret
 exact ⟨by first | rfl | (simp [errW_none, errW_some] <;> rfl) | (simp [*, errW_none, errW_some] <;> rfl), by repeat (first | (with_reducible first | exact HB.out | apply below_alloc | apply pw_below_drewN | apply below_drew1 | refine below_set ?_ GE111.out) | exact HB.out)⟩
end Go.Proofs.Ythobnoknbdljgaa.PK
end
section
namespace Go.Proofs.Ythobnoknbdljgaa
open Go.RowKit Hand PB0 Go.Proofs.YthobnoknbdljgaaW.PrintWords
def hasZero (s : ByteArray) : Bool := decide (0 ≤ Lib.indexByte s.data.toList 0)
def markB (l3 l4 : List Bool) (i : Nat) : Bool := !(decide ((l4.length : Int) > 0) && rdOf false l4 i && (decide ((l3.length : Int) = 0) || !rdOf false l3 i))
def kokB (l0 : List S56) (l3 l4 : List Bool) (i : Nat) : Bool :=
 !decide ((rd_T56 l0 i).f0 ≤ -2147483648) && !decide ((rd_T56 l0 i).f0 > 2147483647) && !hasZero (rd_T56 l0 i).f2 && markB l3 l4 i
def cntB (l0 : List S56) (l3 l4 : List Bool) : Bool :=
 decide (1 ≤ l0.length ∧ l0.length ≤ 256 ∧ (l3.length = 0 ∨ l3.length = l0.length) ∧ (l4.length = 0 ∨ l4.length = l0.length))
def kindedB (l0 : List S56) (l3 l4 : List Bool) : Bool :=
 cntB l0 l3 l4 && (List.range l0.length).all (kokB l0 l3 l4) && decide ((nmSt (names l0)).1.length ≤ 256)
def rightB (size version : Int) (l0 : List S56) (l1 : List S54) (l2 : List S67) (l3 l4 : List Bool) : Bool :=
 (decide (size = 4) || decide (size = 8)) && kindedB l0 l3 l4 && jumpedB (l0.length : Int) size l1 && leapedB size version l2
theorem sz_l (l : List UInt8) : (ByteArray.mk l.toArray).size = l.length := by simp [ByteArray.size]
theorem j2_f (k : Nat) (l0 : List S56) (l1 : List S54) (l2 : List S67) (l3 l4 : List Bool) (i : Nat) (hi : i < l0.length) (h3 : l3.length = 0 ∨ l3.length = l0.length) (h4 : l4.length = 0 ∨ l4.length = l0.length) :
  PK.block_Block_kinded.j2 (k + 1) i l0 (l0.length : Int) i false l0 l1 l2 l3 l4 = if markB l3 l4 i = true then PK.block_Block_kinded.l0 k l0 (l0.length : Int) (wrap64 ((i : Int) + 1)) l0 l1 l2 l3 l4 else some false := by
 rw [PK.block_Block_kinded.j2, if_neg (by decide)]
 unfold markB
 by_cases a : (l4.length : Int) > 0
 ·
  rw [if_pos a, if_pos (by omega), if_pos (by omega), decide_eq_true a]
  cases b : rdOf false l4 (i : Int)
  ·
   simp
  ·
   rw [if_pos rfl]
   by_cases c : (l3.length : Int) = 0
   ·
    rw [if_pos c, decide_eq_true c]; simp
   ·
    rw [if_neg c, if_pos (by omega), decide_eq_false c]
    cases d : rdOf false l3 (i : Int) <;> simp
 ·
  rw [if_neg a, decide_eq_false a]
  simp
theorem kl_f (l0 : List S56) (l1 : List S54) (l2 : List S67) (l3 l4 : List Bool) (hn : l0.length ≤ 1000000) (hne : l0 ≠ []) (hs : nmSum (names l0) ≤ 1000000) (h3 : l3.length = 0 ∨ l3.length = l0.length) (h4 : l4.length = 0 ∨ l4.length = l0.length) (d : Nat) :
  ∀ (k i : Nat), i + d = l0.length → 2 * d + 1 ≤ k → (List.range i).all (kokB l0 l3 l4) = true →
   PK.block_Block_kinded.l0 k l0 (l0.length : Int) i l0 l1 l2 l3 l4 = some ((List.range l0.length).all (kokB l0 l3 l4) && decide ((nmSt (names l0)).1.length ≤ 256)) := by
 induction d with
 | zero =>
  intro k i hi hk ha
  obtain ⟨k, rfl⟩ : ∃ m, k = m + 1 := ⟨k - 1, by omega⟩
  have e : i = l0.length := by omega
  subst e
  rw [PK.block_Block_kinded.l0, if_neg (by omega), ha]
  unfold block_names.f
  rw [if_pos ⟨hne, hs⟩]
  simp only [Option.bind_some, sz_l, Bool.true_and]
  congr 2
  exact propext (by omega)
 | succ d ih =>
  intro k i hi hk ha
  obtain ⟨k, rfl⟩ : ∃ m, k = m + 2 := ⟨k - 2, by omega⟩
  have no : kokB l0 l3 l4 i = false → some ((List.range l0.length).all (kokB l0 l3 l4) && decide ((nmSt (names l0)).1.length ≤ 256)) = some false := fun h => by
   rw [all_no _ (show i < l0.length by omega) h]; rfl
  have nt : ∀ k, PK.block_Block_kinded.j2 (k + 1) i l0 (l0.length : Int) i true l0 l1 l2 l3 l4 = some false := fun k => by
   rw [PK.block_Block_kinded.j2, if_pos rfl]
  rw [PK.block_Block_kinded.l0, if_pos (by omega), if_pos (by omega), if_pos (by omega)]
  by_cases a : (rd_T56 l0 (i : Int)).f0 ≤ -2147483648
  ·
   rw [if_pos a, nt, no (by unfold kokB; rw [decide_eq_true a]; rfl)]
  ·
   rw [if_neg a]
   by_cases b : (rd_T56 l0 (i : Int)).f0 > 2147483647
   ·
    rw [if_pos b, nt, no (by unfold kokB; rw [decide_eq_false a, decide_eq_true b]; rfl)]
   ·
    rw [if_neg b]
    unfold Stub.strings_Contains.f
    rw [if_pos (rfl : (⟨#[0]⟩ : ByteArray) = ⟨#[0]⟩)]
    simp only [Option.bind_some]
    cases c : decide (0 ≤ Lib.indexByte (rd_T56 l0 (i : Int)).f2.data.toList 0)
    ·
     rw [j2_f k l0 l1 l2 l3 l4 i (by omega) h3 h4]
     cases m : markB l3 l4 i
     ·
      rw [if_neg (by decide), no (by unfold kokB hasZero; rw [decide_eq_false a, decide_eq_false b, c, m]; rfl)]
     ·
      rw [if_pos rfl, w64 (n := (i : Int) + 1) (by omega) (by omega)]
      exact ih k (i + 1) (by omega) (by omega) (by rw [all_succ, ha]; unfold kokB hasZero; rw [decide_eq_false a, decide_eq_false b, c, m]; rfl)
    ·
     rw [nt, no (by unfold kokB hasZero; rw [decide_eq_false a, decide_eq_false b, c]; rfl)]
theorem kinded_f (k : Nat) (l0 : List S56) (l1 : List S54) (l2 : List S67) (l3 l4 : List Bool) (hk : 2 * l0.length + 4 ≤ k) (hn : l0.length ≤ 1000000) (hs : nmSum (names l0) ≤ 1000000) :
  PK.block_Block_kinded.f k l0 l1 l2 l3 l4 = some (kindedB l0 l3 l4) := by
 obtain ⟨k, rfl⟩ : ∃ m, k = m + 1 := ⟨k - 1, by omega⟩
 have jt : ∀ {b}, b = true → cntB l0 l3 l4 = false → PK.block_Block_kinded.j0 (k + 1) b l0 l1 l2 l3 l4 = some (kindedB l0 l3 l4) := fun hb hc => by
  rw [hb, PK.block_Block_kinded.j0, if_pos rfl]; unfold kindedB; rw [hc]; rfl
 have jf : ∀ {b}, b = false → cntB l0 l3 l4 = true → PK.block_Block_kinded.j0 (k + 1) b l0 l1 l2 l3 l4 = some (kindedB l0 l3 l4) := fun hb hc => by
  have hc2 := of_decide_eq_true hc
  rw [hb, PK.block_Block_kinded.j0, if_neg (by decide)]
  unfold kindedB
  rw [hc, Bool.true_and]
  exact kl_f l0 l1 l2 l3 l4 hn (by intro e; rw [e] at hc2; exact absurd hc2.1 (by decide)) hs hc2.2.2.1 hc2.2.2.2 l0.length k 0 (by omega) (by omega) rfl
 unfold PK.block_Block_kinded.f
 by_cases a : (l0.length : Int) < 1
 ·
  rw [if_pos a]; exact jt rfl (by unfold cntB; first | exact decide_eq_true (by omega) | exact decide_eq_false (by omega))
 ·
  rw [if_neg a]
  by_cases b : (l0.length : Int) > 256
  ·
   rw [if_pos b]; exact jt rfl (by unfold cntB; first | exact decide_eq_true (by omega) | exact decide_eq_false (by omega))
  ·
   rw [if_neg b]
   have hu : (l3.length = 0 ∨ l3.length = l0.length) → (if (l4.length : Int) = 0 then PK.block_Block_kinded.j0 (k + 1) false l0 l1 l2 l3 l4 else PK.block_Block_kinded.j0 (k + 1) ((l4.length : Int) != (l0.length : Int)) l0 l1 l2 l3 l4) = some (kindedB l0 l3 l4) := by
    intro h3
    by_cases c : (l4.length : Int) = 0
    ·
     rw [if_pos c]; exact jf rfl (by unfold cntB; first | exact decide_eq_true (by omega) | exact decide_eq_false (by omega))
    ·
     rw [if_neg c]
     by_cases e : (l4.length : Int) = (l0.length : Int)
     ·
      exact jf (by simp [e]) (by unfold cntB; first | exact decide_eq_true (by omega) | exact decide_eq_false (by omega))
     ·
      exact jt (by simp [e]) (by unfold cntB; first | exact decide_eq_true (by omega) | exact decide_eq_false (by omega))
   by_cases c : (l3.length : Int) = 0
   ·
    rw [if_pos c]; exact hu (.inl (by omega))
   ·
    rw [if_neg c]
    by_cases e : (l3.length : Int) = (l0.length : Int)
    ·
     rw [if_pos e]; exact hu (.inr (by omega))
    ·
     rw [if_neg e]; exact jt rfl (by unfold cntB; first | exact decide_eq_true (by omega) | exact decide_eq_false (by omega))
theorem right_f (k : Nat) (size version : Int) (l0 : List S56) (l1 : List S54) (l2 : List S67) (l3 l4 : List Bool) (hk : 2 * l0.length + 4 ≤ k) (hn : l0.length ≤ 1000000) (hs : nmSum (names l0) ≤ 1000000) (h1 : l1.length ≤ 1000000) (h2 : l2.length ≤ 1000000) :
  PK.block_Right.f k l0 l1 l2 l3 l4 size version = some (rightB size version l0 l1 l2 l3 l4) := by
 have hj : block_Block_jumped.f l0 l1 l2 l3 l4 size = some (jumpedB (l0.length : Int) size l1) := by
  unfold block_Block_jumped.f
  rw [if_pos ⟨h1, hn⟩]
 have hl : block_Block_leaped.f l0 l1 l2 l3 l4 size version = some (leapedB size version l2) := by
  unfold block_Block_leaped.f
  rw [if_pos h2]
 unfold PK.block_Right.f rightB
 rw [kinded_f k l0 l1 l2 l3 l4 hk hn hs, hj, hl]
 simp only [Option.bind_some]
 by_cases a : size = 4
 ·
  rw [if_pos a, decide_eq_true a]
  cases kindedB l0 l3 l4 <;> cases jumpedB (l0.length : Int) size l1 <;> simp
 ·
  rw [if_neg a, decide_eq_false a]
  by_cases b : size = 8
  ·
   rw [if_pos b, decide_eq_true b]
   cases kindedB l0 l3 l4 <;> cases jumpedB (l0.length : Int) size l1 <;> simp
  ·
   rw [if_neg b, decide_eq_false b]
   simp
end Go.Proofs.Ythobnoknbdljgaa
end
section
namespace Go.Proofs.Ythobnoknbdljgaa.Hand
open Go.RowKit Go.Proofs.YthobnoknbdljgaaW.PrintWords Go.Proofs.YthobnoknbdljgaaW.PrintLast Go.Proofs.YthobnoknbdljgaaW.PrintMore
theorem info_u8 : (Try.prog.info? 5).map (fun i => (i.zero, i.size, i.bytes)) = some (some (.int .u8 0), 1, 1) := by kernel_rfl
def slices_Clone_byte_byte.f (l0 : List Int) : Option (List Int) := if l0.length < 140737488355328 then some l0 else none
set_option maxHeartbeats 8000000 in
set_option maxRecDepth 100000 in
theorem slices_Clone_byte_byte.calls (A0 : Option Addr) (c0 : Nat) (l0 : List Int) (r : List Int) (w : World) (hr0 : Kd.C (Kd.int .u8) w A0 l0.length l0) (hc0 : l0.length ≤ c0) (h : slices_Clone_byte_byte.f l0 = some r) :
  Calls Try.prog 46 #[.slice A0 l0.length c0] w fun e w' => ∃ v0_ : Value, e = .returned (v0_) ∧ Kd.R (Kd.int .u8) 5 w' w.heap.size (fun _ => True) v0_ r ∧ Below w.heap.size w w' := by
 unfold slices_Clone_byte_byte.f at h
 by_cases hl : l0.length < 140737488355328
 rotate_left
 ·
  rw [if_neg hl] at h
  exact absurd h (by simp)
 rw [if_pos hl] at h
 obtain rfl := Option.some.inj h
 clear h
 have HR0 := Aside0.mk hr0
 have HC0 := Aside0.mk hc0
 have LM := Aside0.mk hl
 have HB := Aside0.mk (Below.refl w.heap.size w)
 cases A0 with
 | none =>
  have hz : l0 = [] := by
   have := hr0.2.2
   cases l0 with
   | nil => rfl
   | cons a l => exact absurd (hr0.2.2 (by simp)) (by simp)
  subst hz
  have he := fun W => Lib.run_eql_slice_nil (P := Try.prog) W 33 5 none 0 c0 0 0 Try.underlying33
  clear hr0 hc0 hl
  go_enter Try.func46, Try.ntmps46
  go_wp2
  go_ret
  exact ⟨_, rfl, Kd.R_nil _ _ _ _ _, Below.refl _ _⟩
 | some a =>
  have he := fun W => Lib.run_eql_slice_nil (P := Try.prog) W 33 5 (some a) l0.length c0 0 0 Try.underlying33
  clear hr0 hc0 hl
  go_enter Try.func46, Try.ntmps46
  go_wp2_with (first | ((with_reducible refine gate_dst (N := 5) rfl ?_); refine Kd.R_lit (Kd.int .u8) _ 5 ?hg (N := 5) ?hd (xs := ([] : List Int)) (inner := []) (ok := fun _ => True) (okp := fun _ => True) ?hr ?hp (fun _ hk => hk) trivial (Below.refl _ _) (Nat.le_refl _) (by simp) ?_; (case hd => rfl); (case hg => rfl); (case hr => first | (go_simp; done) | (go_simp; rfl)); (case hp => exact (Reps.none _ _)); intro v131 w6 ho7 hb hg_ hnew_; clear hg_ hnew_; (first | skip | (simp only [Int.reduceToNat] at ho7)); have HO132 := Aside0.mk (Kd.R_lower ho7 (below_size (by repeat (first | (with_reducible first | exact HB.out | apply below_alloc | apply pw_below_drewN | apply below_drew1) | exact HB.out)))); replace HB := Aside0.mk (below_step (by repeat (first | (with_reducible first | exact HB.out | apply below_alloc | apply pw_below_drewN | apply below_drew1) | exact HB.out)) hb); clear hb ho7) | ((with_reducible refine gate_builtin (b := .append) (xs := #[.tmp 5, .tmp 6]) rfl ?_); at_builtin; refine Kd.R_append_rows (Kd.int .u8) (w0 := w) w.heap.size rfl (.tmp 5) (.tmp 6) 33 5 (.int .u8 0) 1 rfl Try.underlying33 info_u8 rfl (by decide) (by omega) v131 [] l0 _ _ _ (fun _ => True) (fun _ => False) rfl rfl ?aO ?aR (fun _ _ h => h) (fun _ h => h.elim) ?aF ?aB ?aS ?aL ?_; (case aR => repeat (first | exact (Kd.C_below HR0.out HB.out) | (with_reducible refine Kd.C_alloc ?_ _) | (with_reducible refine Kd.C_drewN ?_ _) | (with_reducible refine Kd.C_drew ?_))); (case aB => exact (by repeat (first | (with_reducible first | exact HB.out | apply below_alloc | apply pw_below_drewN | apply below_drew1) | exact HB.out))); (case aF => exact (fun _ _ => trivial)); (case aO => exact (by (with_reducible repeat (first | apply Kd.R_alloc | apply Kd.R_drewN | apply Kd.R_drew)); exact HO132.out)); (case aS => exact (below_size (by repeat (first | (with_reducible first | exact HB.out | apply below_alloc | apply pw_below_drewN | apply below_drew1) | exact HB.out)))); (case aL => have := LM.out; simp; omega); intro v134 w8 ho hb hg hat; rw [List.nil_append] at ho; replace HB := Aside0.mk (hb); have HO135 := Aside0.mk (ho); clear HO132; clear ho hb hg hat))
  go_ret
  exact ⟨_, rfl, by (with_reducible repeat (first | apply Kd.R_alloc | apply Kd.R_drewN | apply Kd.R_drew)); exact HO135.out, (by repeat (first | (with_reducible first | exact HB.out | apply below_alloc | apply pw_below_drewN | apply below_drew1) | exact HB.out))⟩
end Go.Proofs.Ythobnoknbdljgaa.Hand
end
section
namespace Go.Proofs.Ythobnoknbdljgaa.Hand
open Go.RowKit Go.Proofs.YthobnoknbdljgaaW.PrintWords Go.Proofs.YthobnoknbdljgaaW.PrintLast Go.Proofs.YthobnoknbdljgaaW.PrintMore
theorem run_ib {P : Program} (w : World) (A : Option Addr) (n c : Nat) (xs : List Int) (h : ReadsInt w .u8 A n xs) (cv : Int) :
  (Extern.BytealgIndexByte.indexByte #[.slice A n c, .int .u8 cv]).run P w = .ok (.int .i64 (Lib.indexByte (Lib.bytesOf xs) cv.toNat.toUInt8)) w := by
 have hn : xs.length = n := h.1
 have hs := Lib.run_indexByteString (P := P) ⟨(Lib.bytesOf xs).toArray⟩ cv w
 change Sem.run P (do
  let b ← Extern.Bytes.bytesOf (.string ⟨(Lib.bytesOf xs).toArray⟩)
  let c ← Extern.Bytes.asByte (.int .u8 cv)
  match (List.range b.size).find? fun i => b[i]! == c with
  | some i => pure (goInt i)
  | none => pure (goInt (-1))) w = _ at hs
 change Sem.run P (do
  let b ← Extern.Bytes.bytesOf (.slice A n c)
  let c ← Extern.Bytes.asByte (.int .u8 cv)
  match (List.range b.size).find? fun i => b[i]! == c with
  | some i => pure (goInt i)
  | none => pure (goInt (-1))) w = _
 have hl : (Extern.Bytes.bytesOf (.slice A n c)).run P w = .ok ⟨(Lib.bytesOf xs).toArray⟩ w := by
  cases A with
  | none =>
   have h0 : n = 0 := by
    rcases Nat.eq_zero_or_pos n with h0 | h0
    ·
     exact h0
    ·
     obtain ⟨ad, h', _⟩ := h.2.2 h0
     cases h'
   subst h0
   obtain rfl : xs = [] := List.eq_nil_of_length_eq_zero hn
   rfl
  | some ad =>
   have hl := Lib.run_loadBytesX (P := P) w xs ad .empty (fun j x hj => by
    have hjl : j < xs.length := (List.getElem?_eq_some_iff.1 hj).1
    obtain ⟨ad', he', hc⟩ := h.2.2 (by omega)
    injection he' with he'
    subst he'
    rw [hc j (by omega), List.getD_eq_getElem?_getD, hj]
    rfl)
   have he : (⟨ByteArray.empty.data ++ (Lib.bytesOf xs).toArray⟩ : ByteArray) = ⟨(Lib.bytesOf xs).toArray⟩ := by
    apply ByteArray.ext
    show (#[] : Array UInt8) ++ (Lib.bytesOf xs).toArray = (Lib.bytesOf xs).toArray
    simp
   rw [he, hn] at hl
   simpa only [Extern.Bytes.bytesOf] using hl
 simp only [Extern.Bytes.bytesOf, Sem.run_bind, Sem.run_pure, Result.andThen] at hs
 simp only [Sem.run_bind, hl, Result.andThen]
 exact hs
def bytes_IndexByte.f (l0 : List Int) (a1 : Int) : Option Int := some (Lib.indexByte (Lib.bytesOf l0) a1.toNat.toUInt8)
set_option maxHeartbeats 2000000 in
set_option maxRecDepth 100000 in
theorem bytes_IndexByte.calls (A0 : Option Addr) (c0 : Nat) (l0 : List Int) (a1 : Int) (r : Int) (w : World) (hr0 : Kd.C (Kd.int .u8) w A0 l0.length l0) (_hc0 : l0.length ≤ c0) (h : bytes_IndexByte.f l0 a1 = some r) :
  Calls Try.prog 62 #[.slice A0 l0.length c0, .int .u8 a1] w fun e w' => e = .returned (.int .i64 r) ∧ Drawn0 w w' := by
 obtain rfl := Option.some.inj h
 have hR : ReadsInt w .u8 A0 l0.length l0 := Kd.reads_of_C (d := (0 : Int)) hr0
 have H := Lib.hid hR
 clear hR h hr0
 go_enter Try.func62, Try.ntmps62
 go_wp2
 rw [run_callFunc_extern Try.func70 (by kernel_rfl) (by kernel_rfl) (by kernel_rfl) (e := Extern.BytealgIndexByte.indexByte) (by kernel_rfl), run_ib w A0 _ c0 l0 H.out a1]
 simp only [Result.andThen]
 rw [Oper.upon_value]
 go_wp2
 go_ret
 exact ⟨rfl, Drawn0.refl _⟩
set_option maxHeartbeats 2000000 in
set_option maxRecDepth 100000 in
theorem index_one (A0 : Option Addr) (c0 : Nat) (l0 : List Int) (g c1 : Nat) (w : World) (hr0 : Kd.C (Kd.int .u8) w A0 l0.length l0) (hc0 : l0.length ≤ c0) (h1 : w.cell? ⟨g, 0, none⟩ = some (.int .u8 0)) :
  Calls Try.prog 59 #[.slice A0 l0.length c0, .slice (some ⟨g, 0, none⟩) 1 c1] w fun e w' => e = .returned (.int .i64 (Lib.indexByte (Lib.bytesOf l0) 0)) ∧ Drawn0 w w' := by
 have H := Lib.hid hr0
 have HC := Lib.hid hc0
 clear hr0 hc0
 go_enter Try.func59, Try.ntmps59
 go_wp2_with (go_at_call 62; (with_reducible refine (bytes_IndexByte.calls A0 c0 l0 0 _ _ H.out HC.out rfl).mono ?_); rintro e w' ⟨rfl, ⟨nd, rfl⟩⟩)
 go_ret
 exact ⟨rfl, ⟨_, rfl⟩⟩
theorem ib_bd (l : List UInt8) (c : UInt8) : -1 ≤ Lib.indexByte l c ∧ (Lib.indexByte l c < l.length) := by
 induction l with
 | nil => simp [Lib.indexByte]
 | cons a l ih =>
  simp only [Lib.indexByte, List.length_cons]
  split
  ·
   omega
  ·
   split
   ·
    omega
   ·
    omega
theorem bytesOf_len (xs : List Int) : (Lib.bytesOf xs).length = xs.length := by simp [Lib.bytesOf]
set_option maxHeartbeats 2000000 in
set_option maxRecDepth 100000 in
theorem cut_no (A0 : Option Addr) (m c0 : Nat) (l0 : List Int) (g c1 : Nat) (w : World) (hr0 : Kd.C (Kd.int .u8) w A0 m l0) (hc0 : m ≤ c0) (h1 : w.cell? ⟨g, 0, none⟩ = some (.int .u8 0)) (hi : Lib.indexByte (Lib.bytesOf l0) 0 < 0) :
  Calls Try.prog 54 #[.slice A0 m c0, .slice (some ⟨g, 0, none⟩) 1 c1] w fun e w' => e = .returned (.tuple #[.slice A0 m c0, .slice none 0 0, .bool false]) ∧ Drawn0 w w' := by
 obtain rfl := Kd.C_len hr0
 have H := Lib.hid hr0
 have HC := Lib.hid hc0
 have H1 := Lib.hid h1
 clear hr0 hc0 h1
 generalize hI : Lib.indexByte (Lib.bytesOf l0) 0 = I at hi
 have HI := Lib.hid hI
 clear hI
 go_enter Try.func54, Try.ntmps54
 go_wp2_with (go_at_call 59; (with_reducible refine (index_one A0 c0 l0 g c1 _ H.out HC.out H1.out).mono ?_); rintro e w' ⟨rfl, ⟨nd, rfl⟩⟩; rw [HI.out])
 go_ret3
 exact ⟨rfl, ⟨_, rfl⟩⟩
set_option maxHeartbeats 2000000 in
set_option maxRecDepth 100000 in
theorem cut_yes (A0 : Option Addr) (m c0 : Nat) (l0 : List Int) (g c1 : Nat) (w : World) (hr0 : Kd.C (Kd.int .u8) w A0 m l0) (hc0 : m ≤ c0) (h1 : w.cell? ⟨g, 0, none⟩ = some (.int .u8 0)) (hi : 0 ≤ Lib.indexByte (Lib.bytesOf l0) 0) :
  Calls Try.prog 54 #[.slice A0 m c0, .slice (some ⟨g, 0, none⟩) 1 c1] w fun e w' => (∃ v2, e = .returned (.tuple #[.slice A0 (Lib.indexByte (Lib.bytesOf l0) 0).toNat c0, v2, .bool true])) ∧ Drawn0 w w' := by
 obtain rfl := Kd.C_len hr0
 have hb := ib_bd (Lib.bytesOf l0) 0
 have hmx := Kd.C_max hr0
 rw [bytesOf_len] at hb
 have H := Lib.hid hr0
 have HC := Lib.hid hc0
 have H1 := Lib.hid h1
 clear hr0 h1
 generalize hI : Lib.indexByte (Lib.bytesOf l0) 0 = I at *
 have HI := Lib.hid hI
 clear hI
 have b1 : I + 1 ≤ l0.length := by omega
 have b2 : (I + 1).toNat ≤ l0.length := by omega
 go_enter Try.func54, Try.ntmps54
 go_wp2_with (go_at_call 59; (with_reducible refine (index_one A0 c0 l0 g c1 _ H.out HC.out H1.out).mono ?_); rintro e w' ⟨rfl, ⟨nd, rfl⟩⟩; rw [HI.out])
 go_quiet (fail)
 all_goals go_wp2
 all_goals go_ret3
 all_goals exact ⟨⟨_, rfl⟩, ⟨_, by first | rfl | exact World.drewN_drewN _ _ _⟩⟩
def octets_Name.f (l0 : List Int) (a1 : Int) : Option (ByteArray × Bool) :=
 if a1 < 0 then some (ByteArray.empty, false) else if a1 > l0.length then some (ByteArray.empty, false) else
  if Lib.indexByte (Lib.bytesOf (l0.drop a1.toNat)) 0 < 0 then some (ByteArray.empty, false) else some (strOfNums ((l0.drop a1.toNat).take (Lib.indexByte (Lib.bytesOf (l0.drop a1.toNat)) 0).toNat), true)
set_option maxHeartbeats 2000000 in
set_option maxRecDepth 100000 in
theorem octets_Name.calls (A0 : Option Addr) (c0 : Nat) (l0 : List Int) (a1 : Int) (r1 : ByteArray) (r2 : Bool) (w : World) (hr0 : Kd.C (Kd.int .u8) w A0 l0.length l0) (hc0 : l0.length ≤ c0) (h : octets_Name.f l0 a1 = some (r1, r2)) :
  Calls Try.prog 40 #[.slice A0 l0.length c0, .int .i64 a1] w fun e w' => e = .returned (.tuple #[.string r1, .bool r2]) ∧ Below w.heap.size w w' := by
 unfold octets_Name.f at h
 by_cases h1 : a1 < 0
 ·
  rw [if_pos h1] at h
  simp only [Option.some.injEq, Prod.mk.injEq] at h
  obtain ⟨rfl, rfl⟩ := h
  clear hr0 hc0
  go_enter Try.func40, Try.ntmps40
  go_wp2
  go_ret2
  exact ⟨rfl, Below.refl _ _⟩
 rw [if_neg h1] at h
 by_cases h2 : a1 > l0.length
 ·
  rw [if_pos h2] at h
  simp only [Option.some.injEq, Prod.mk.injEq] at h
  obtain ⟨rfl, rfl⟩ := h
  clear hr0 hc0
  go_enter Try.func40, Try.ntmps40
  go_wp2
  go_ret2
  exact ⟨rfl, Below.refl _ _⟩
 rw [if_neg h2] at h
 have hmx := Kd.C_max hr0
 obtain ⟨n, rfl⟩ := Int.eq_ofNat_of_zero_le (show 0 ≤ a1 by omega)
 simp only [Int.toNat_natCast] at h
 have hn : n ≤ l0.length := by omega
 have hd := Kd.C_drop hr0 hn hc0
 have hlen : (l0.drop n).length = l0.length - n := by simp
 have hib := ib_bd (Lib.bytesOf (l0.drop n)) 0
 rw [bytesOf_len, hlen] at hib
 rw [hlen] at hd
 have hs1 : (Kd.int .u8).sz = 1 := rfl
 rw [hs1, Nat.mul_one] at hd
 by_cases h3 : Lib.indexByte (Lib.bytesOf (l0.drop n)) 0 < 0
 ·
  rw [if_pos h3] at h
  simp only [Option.some.injEq, Prod.mk.injEq] at h
  obtain ⟨rfl, rfl⟩ := h
  have H3 := Lib.hid h3
  clear hr0 h1 h2 h3 hib hlen
  by_cases hcn : c0 = n
  rotate_left
  ·
   rw [if_neg hcn] at hd
   have HD := Lib.hid hd
   clear hd
   go_enter Try.func40, Try.ntmps40
   go_wp2_with (go_at_call 54; (with_reducible refine (cut_no _ _ _ (l0.drop n) w.heap.size 1 _ (Kd.C_alloc HD.out _) (by omega) (by simp) H3.out).mono ?_); rintro e w' ⟨rfl, ⟨nd, rfl⟩⟩)
   go_ret2
   exact ⟨rfl, by repeat (first | exact Below.refl _ _ | apply pw_below_drewN | apply below_alloc)⟩
  subst hcn
  rw [if_pos rfl] at hd
  have hz : l0.drop c0 = [] := List.eq_nil_of_length_eq_zero (by rw [List.length_drop]; omega)
  have hm0 : l0.length - c0 = 0 := by omega
  rw [hm0, hz] at hd
  have HD := Lib.hid hd
  have H4 : Hid (Lib.indexByte (Lib.bytesOf ([] : List Int)) 0 < 0) := by rw [← hz]; exact H3
  clear hd hz hm0
  go_enter Try.func40, Try.ntmps40
  go_wp2_with (go_at_call 54; (with_reducible refine (cut_no _ _ _ [] w.heap.size 1 _ (Kd.C_alloc HD.out _) (by omega) (by simp) H4.out).mono ?_); rintro e w' ⟨rfl, ⟨nd, rfl⟩⟩)
  go_ret2
  exact ⟨rfl, by repeat (first | exact Below.refl _ _ | apply pw_below_drewN | apply below_alloc)⟩
 rw [if_neg h3] at h
 simp only [Option.some.injEq, Prod.mk.injEq] at h
 obtain ⟨rfl, rfl⟩ := h
 have H3 := Lib.hid (show 0 ≤ Lib.indexByte (Lib.bytesOf (l0.drop n)) 0 by omega)
 generalize hI : (Lib.indexByte (Lib.bytesOf (l0.drop n)) 0).toNat = I at *
 have hIl : I ≤ (l0.drop n).length := by omega
 have HI := Lib.hid hI
 clear hr0 h1 h2 h3 hib hlen hI
 by_cases hcn : c0 = n
 ·
  exfalso
  have hz : l0.drop n = [] := List.eq_nil_of_length_eq_zero (by rw [List.length_drop]; omega)
  have := H3.out
  rw [hz] at this
  simp [Lib.bytesOf, Lib.indexByte] at this
 rw [if_neg hcn] at hd
 have HD := Lib.hid hd
 have hstr : ∀ W : World, Below w.heap.size w W → (convert 33 9 (.slice (A0.map (·.add n)) I (c0 - n))).run Try.prog W = .ok (.string (strOfNums ((l0.drop n).take I))) W := by
  intro W hW
  have hC := Kd.C_take (m := I) (by rw [List.length_drop]; exact Kd.C_below hd hW : (Kd.int .u8).C W _ (l0.drop n).length (l0.drop n)) hIl
  have hl2 : ((l0.drop n).take I).length = I := by rw [List.length_take]; omega
  rw [hl2] at hC
  exact Kd.C_string Try.underlying33 Try.underlying5 Try.underlying9 hC
 have HS := Lib.hid hstr
 clear hd hstr
 go_enter Try.func40, Try.ntmps40
 go_wp2_with (go_at_call 54; (with_reducible refine (cut_yes _ _ _ (l0.drop n) w.heap.size 1 _ (Kd.C_alloc HD.out _) (by omega) (by simp) H3.out).mono ?_); rintro e w' ⟨⟨v2, rfl⟩, ⟨nd, rfl⟩⟩; rw [HI.out]; have hS := HS.out ((w.alloc (.cells #[.int .u8 0] 5)).drewN nd) (pw_below_drewN (below_alloc (Below.refl _ _) _) _))
 go_ret2
 exact ⟨rfl, by repeat (first | exact Below.refl _ _ | apply pw_below_drewN | apply below_alloc)⟩
end Go.Proofs.Ythobnoknbdljgaa.Hand
end
section
namespace Go.Proofs.Ythobnoknbdljgaa.Hand
open Go.RowKit Go.Proofs.YthobnoknbdljgaaW.PrintWords Go.Proofs.YthobnoknbdljgaaW.PrintLast Go.Proofs.YthobnoknbdljgaaW.PrintMore
def uval (xs : List Int) : Int := xs.foldl (fun a c => Go.bits .or .u64 (IntKind.u64.wrap (a * 256)) (IntKind.u64.wrap c)) 0
theorem uval_snoc (xs : List Int) (c : Int) : uval (xs ++ [c]) = Go.bits .or .u64 (IntKind.u64.wrap (uval xs * 256)) (IntKind.u64.wrap c) := by
 simp [uval, List.foldl_append]
def octets_Uint.f (l0 : List Int) (a1 a2 : Int) : Option (Int × Bool) :=
 if 1 ≤ a2 ∧ a2 ≤ 8 ∧ 0 ≤ a1 ∧ a1 ≤ l0.length - a2 then some (uval ((l0.take (a1.toNat + a2.toNat)).drop a1.toNat), true) else some (0, false)
set_option maxHeartbeats 4000000 in
set_option maxRecDepth 100000 in
theorem uint_no (A0 : Option Addr) (c0 : Nat) (n0 : Nat) (a1 a2 : Int) (w : World) (hmx : n0 ≤ 9223372036854775807) (h : ¬ (1 ≤ a2 ∧ a2 ≤ 8 ∧ 0 ≤ a1 ∧ a1 ≤ n0 - a2)) :
  Calls Try.prog 58 #[.slice A0 n0 c0, .int .i64 a1, .int .i64 a2] w fun e w' => e = .returned (.tuple #[.int .u64 0, .bool false]) ∧ Drawn0 w w' := by
 by_cases h1 : 1 ≤ a2
 ·
  by_cases h2 : a2 ≤ 8
  ·
   by_cases h3 : 0 ≤ a1
   ·
    have h4 : (n0 : Int) - a2 < a1 := by omega
    clear h
    go_enter Try.func58, Try.ntmps58
    go_wp2
    go_ret2
    exact ⟨rfl, Drawn0.refl _⟩
   ·
    have h4 : a1 < 0 := by omega
    clear h h3
    go_enter Try.func58, Try.ntmps58
    go_wp2
    go_ret2
    exact ⟨rfl, Drawn0.refl _⟩
  ·
   have h4 : 8 < a2 := by omega
   clear h h2
   go_enter Try.func58, Try.ntmps58
   go_wp2
   go_ret2
   exact ⟨rfl, Drawn0.refl _⟩
 ·
  have h4 : a2 < 1 := by omega
  clear h h1
  go_enter Try.func58, Try.ntmps58
  go_wp2
  go_ret2
  exact ⟨rfl, Drawn0.refl _⟩
set_option maxHeartbeats 4000000 in
set_option maxRecDepth 100000 in
theorem uint_yes (A0 : Option Addr) (c0 : Nat) (l0 : List Int) (n m : Nat) (w : World) (hr0 : Kd.C (Kd.int .u8) w A0 l0.length l0) (hc0 : l0.length ≤ c0) (h1 : 1 ≤ m) (h2 : m ≤ 8) (h3 : n + m ≤ l0.length) :
  Calls Try.prog 58 #[.slice A0 l0.length c0, .int .i64 n, .int .i64 m] w fun e w' => e = .returned (.tuple #[.int .u64 (uval ((l0.take (n + m)).drop n)), .bool true]) ∧ Drawn0 w w' := by
 have hmx := Kd.C_max hr0
 obtain ⟨i0, hi0, _, hsz0, _⟩ := info_parts info_u8
 obtain ⟨A', hcut, hA, hC⟩ := print_mid_of (P := Try.prog) (Value.int .u8) (0 : Int) 33 5 .i64 .i64 Try.underlying33 hi0 hsz0 A0 c0 l0 (n : Int) ((n : Int) + (m : Int)) (by omega) (by omega) (by omega) hc0
 have e1 : ((n : Int) + (m : Int)).toNat = n + m := by omega
 have e2 : ((n : Int)).toNat = n := by omega
 rw [e1, e2] at hcut hA hC
 have hlen : ((l0.take (n + m)).drop n).length = m := by rw [List.length_drop, List.length_take]; omega
 have hR := hA w (Kd.reads_of_C hr0)
 generalize hT : (l0.take (n + m)).drop n = T at *
 rw [hlen] at hcut hR
 have HR := Lib.hid hR
 have HL := Lib.hid hlen
 clear hr0 hA hC hR hi0 hsz0 e1 e2 hlen hT
 go_enter Try.func58, Try.ntmps58
 go_wp2
 go_loop [6, 9, 35] (fun v u i => ∃ k : Nat, k ≤ m ∧ i = .int .i64 k ∧ v = .int .u64 (uval (T.take k))) (fun _ _ i => m - (intOf i).toNat)
 case atStart => exact ⟨0, Nat.zero_le _, rfl, rfl⟩
 case round =>
  obtain ⟨k, hk, rfl, rfl⟩ := hrel
  by_cases hlt : k < m
  ·
   obtain ⟨ad, hA', hc⟩ := ReadsOf.at_ HR.out (k : Int) (by omega) (by omega)
   cases hA'
   have e : T.take (k + 1) = T.take k ++ [rdOf 0 T k] := by
    have hL := HL.out
    rw [List.take_succ_eq_append_getElem (by omega)]
    simp [rdOf, List.getD_eq_getElem?_getD, List.getElem?_eq_getElem (show k < T.length by omega)]
   have E := Lib.hid e
   have e3 : (k : Int).toNat = k := by omega
   rw [e3] at hc
   clear e e3
   go_wp2
   go_round
   case rel => exact ⟨k + 1, by omega, by go_num, by rw [E.out, uval_snoc]⟩
   case measure => simp [intOf]; omega
  ·
   have hkm : k = m := by omega
   subst hkm
   have e : T.take k = T := List.take_of_length_le (by have := HL.out; omega)
   have E := Lib.hid e
   clear e
   go_wp2
   go_ret2
   exact ⟨congrArg (fun t => Ending.returned (.tuple #[.int .u64 (uval t), .bool true])) E.out, Drawn0.refl _⟩
theorem octets_Uint.calls (A0 : Option Addr) (c0 : Nat) (l0 : List Int) (a1 a2 : Int) (r1 : Int) (r2 : Bool) (w : World) (hr0 : Kd.C (Kd.int .u8) w A0 l0.length l0) (hc0 : l0.length ≤ c0) (h : octets_Uint.f l0 a1 a2 = some (r1, r2)) :
  Calls Try.prog 58 #[.slice A0 l0.length c0, .int .i64 a1, .int .i64 a2] w fun e w' => e = .returned (.tuple #[.int .u64 r1, .bool r2]) ∧ Drawn0 w w' := by
 unfold octets_Uint.f at h
 by_cases hd : 1 ≤ a2 ∧ a2 ≤ 8 ∧ 0 ≤ a1 ∧ a1 ≤ l0.length - a2
 ·
  rw [if_pos hd] at h
  simp only [Option.some.injEq, Prod.mk.injEq] at h
  obtain ⟨rfl, rfl⟩ := h
  obtain ⟨n, rfl⟩ := Int.eq_ofNat_of_zero_le hd.2.2.1
  obtain ⟨m, rfl⟩ := Int.eq_ofNat_of_zero_le (show 0 ≤ a2 by omega)
  simp only [Int.toNat_natCast]
  exact uint_yes A0 c0 l0 n m w hr0 hc0 (by omega) (by omega) (by omega)
 ·
  rw [if_neg hd] at h
  simp only [Option.some.injEq, Prod.mk.injEq] at h
  obtain ⟨rfl, rfl⟩ := h
  exact uint_no A0 c0 l0.length a1 a2 w (Kd.C_max hr0) hd
end Go.Proofs.Ythobnoknbdljgaa.Hand
end
section
namespace Go.Proofs.Ythobnoknbdljgaa.PO
open Go.Proofs.Ythobnoknbdljgaa.PB0 Sq
open Go.RowKit Go.Proofs.Ythobnoknbdljgaa.Hand Go.Proofs.YthobnoknbdljgaaW.PrintWords Go.Proofs.YthobnoknbdljgaaW.PrintLast Go.Proofs.YthobnoknbdljgaaW.PrintMore
attribute [local go_sem] max2_int min2_int max_two min_two
set_option linter.unusedVariables false
set_option linter.unusedSimpArgs false
def octets_Put.l0 : Nat → Int → List Int → Int → Option (List Int)
 | 0, _, _, _ => none
 | k + 1, x2, x7, x8 => if x8 ≥ 0 then (if 0 ≤ (wrap64 (8 * x8)) then (if x7.length < 140737488355328 then (octets_Put.l0 k x2 (x7 ++ [(shr .u64 x2 (wrap64 (8 * x8))) % 256]) (wrap64 (x8 - 1))) else (none)) else (none)) else (some x7)
def octets_Put.f (k : Nat) (l0 : List Int) (a1 : Int) (a2 : Int) : Option (List Int) := (slices_Clone_byte_byte.f l0).bind fun t101 => (octets_Put.l0 k a2 t101 ((mn (mx a1 0) 8) - 1))
set_option maxHeartbeats 8000000 in
set_option maxRecDepth 100000 in
theorem octets_Put.calls (k : Nat) (A0 : Option Addr) (c0 : Nat) (l0 : List Int) (a1 : Int) (a2 : Int) (r : List Int) (w : World) (hr0 : Kd.C (Kd.int .u8) w A0 l0.length l0) (hc0 : l0.length ≤ c0) (h : octets_Put.f k l0 a1 a2 = some r) :
  Calls Try.prog 26 #[.slice A0 l0.length c0, .int .i64 a1, .int .u64 a2] w fun e w' => ∃ v0_ : Value, e = .returned (v0_) ∧ Kd.R (Kd.int .u8) 5 w' w.heap.size (fun _ => True) v0_ r ∧ Below w.heap.size w w' := by
 have HR0 := Aside0.mk hr0
 have HC0 := Aside0.mk hc0
 clear hr0 hc0
 have HB := Aside0.mk (Below.refl w.heap.size w)
 have H : ((slices_Clone_byte_byte.f l0).bind fun t101 => (octets_Put.l0 k a2 t101 ((mn (mx a1 0) 8) - 1))) = some r := h
 clear h
 replace H := Option.bind_eq_some_iff.mp H
 obtain ⟨t101, A40, H⟩ := H
 replace H : (octets_Put.l0 k a2 t101 ((mn (mx a1 0) 8) - 1)) = some r := H
 have A4 := Aside0.mk A40
 clear A40
 obtain ⟨ji5, hji5⟩ : ∃ j_ : Int, (mx a1 0) = j_ := ⟨_, rfl⟩
 replace H : (octets_Put.l0 k a2 t101 ((mn (ji5) 8) - 1)) = some r := by first | (rw [hji5] at H; exact H) | (simp only [hji5] at H ⊢; exact H)
 (try rw [hji5] at A4)
 (try (have hji5l : 0 ≤ ji5 := by (rw [← hji5]; unfold mx; (repeat' split) <;> omega)))
 (try (have hji5m : 0 ≤ ji5 := by omega))
 have hji5_ : (if a1 < 0 then 0 else a1) = ji5 := hji5
 obtain ⟨ji6, hji6⟩ : ∃ j_ : Int, (mn (ji5) 8) = j_ := ⟨_, rfl⟩
 replace H : (octets_Put.l0 k a2 t101 ((ji6) - 1)) = some r := by first | (rw [hji6] at H; exact H) | (simp only [hji6] at H ⊢; exact H)
 (try rw [hji6] at A4)
 have hji6_ : (if 8 < (ji5) then 8 else (ji5)) = ji6 := hji6
 have H' := Aside0.mk H
 clear H
 go_enter Try.func26, Try.ntmps26
 go_wp2_with (first | ((with_reducible refine gate_callee (f := 46) rfl ?_); refine goesL_ (some 10) rfl rfl Try.func46 (by kernel_rfl) rfl #[.slice A0 l0.length c0] rfl (by (try simp only [List.map_toArray, List.map_cons, List.map_nil]); first | done | rfl | (simp only [List.length_drop, List.length_take]; rfl)) ?_; (with_reducible refine (slices_Clone_byte_byte.calls _ _ l0 t101 _ ?side1 ?side2 A4.out).mono ?_); (case side1 => repeat (first | exact HR0.out | (with_reducible refine Kd.C_alloc ?_ _) | (with_reducible refine Kd.C_drewN ?_ _) | (with_reducible refine Kd.C_drew ?_))); (case side2 => exact HC0.out); rintro e w7 ⟨v102, rfl, ho0, hb⟩; refine ⟨_, rfl, ?_⟩; have HO103 := Aside0.mk (Kd.R_lower ho0 (below_size (Sq.kl HB))); replace HB := Aside0.mk (below_step (Sq.kl HB) hb); (try clear hb); (try clear ho0)))
 go_loopg [7, 8] k (fun kq v7 v8 w' => ∃ (x7_1 : List Int) (x8_1 : Int), v8 = .int .i64 x8_1 ∧ Aside0 (octets_Put.l0 kq a2 x7_1 x8_1 = some r) ∧ Aside0 (kq ≤ k) ∧ Aside0 (Kd.R (Kd.int .u8) 5 w' w.heap.size (fun _ => True) v7 x7_1) ∧ Aside0 (Below w.heap.size w w'))
 case atStart => exact ⟨(t101), ((ji6) - 1), (by first | rfl | (simp; done) | (simp only [← hji6] <;> (first | rfl | simp)) | (simp [*]; done)), H', ⟨Nat.le_refl _⟩, ⟨by (with_reducible repeat (first | apply Kd.R_alloc | apply Kd.R_drewN | apply Kd.R_drew)); exact HO103.out⟩, ⟨Sq.kl HB⟩⟩
 clear H'
 try clear c2
 try clear p2
 try clear c4
 obtain ⟨x7_1, x8_1, rfl, HA, HK1, HO_7, HB⟩ := hrel
 cases gk with
 | zero => exact absurd HA.out (by simp [octets_Put.l0])
 | succ k1 =>
  have H := HA.out
  clear HA
  simp only [octets_Put.l0] at H
  by_cases c8 : x8_1 ≥ 0
  rotate_left
  ·
   rw [if_neg c8] at H
   have c8b0 : decide (0 ≤ x8_1) = false := decide_eq_false c8
   clear c8
   obtain rfl := Option.some.inj H
   go_wp2
   go_ret
   exact ⟨_, by first | rfl | (simp [errW_none, errW_some] <;> rfl) | (simp only [← hji5, ← hji6]; first | rfl | (simp [errW_none, errW_some] <;> rfl)) | (simp [*, errW_none, errW_some] <;> rfl), by (with_reducible repeat (first | apply Kd.R_alloc | apply Kd.R_drewN | apply Kd.R_drew)); exact HO_7.out, by repeat (first | (with_reducible first | exact HB.out | apply below_alloc | apply pw_below_drewN | apply below_drew1) | exact HB.out)⟩
  rw [if_pos c8] at H
  have c8b0 : decide (0 ≤ x8_1) = true := decide_eq_true c8
  clear c8
  obtain ⟨ji9, hji9⟩ : ∃ j_ : Int, (wrap64 (8 * x8_1)) = j_ := ⟨_, rfl⟩
  replace H : (if 0 ≤ (ji9) then (if x7_1.length < 140737488355328 then (octets_Put.l0 k1 a2 (x7_1 ++ [(shr .u64 a2 (ji9)) % 256]) (wrap64 (x8_1 - 1))) else (none)) else (none)) = some r := by first | (rw [hji9] at H; exact H) | (simp only [hji9] at H ⊢; exact H)
  have hji9w : (IntKind.i64.wrap (8 * x8_1)) = ji9 := (i64_w _).trans hji9
  by_cases c10 : 0 ≤ (ji9)
  rotate_left
  ·
   rw [if_neg c10] at H
   exact absurd H (by simp)
  rw [if_pos c10] at H
  have c10b0 := eq_true c10
  have c10b1 : decide (0 ≤ (ji9)) = true := decide_eq_true c10
  clear c10
  obtain ⟨ji11, hji11⟩ : ∃ j_ : Int, (shr .u64 a2 (ji9)) = j_ := ⟨_, rfl⟩
  replace H : (if x7_1.length < 140737488355328 then (octets_Put.l0 k1 a2 (x7_1 ++ [(ji11) % 256]) (wrap64 (x8_1 - 1))) else (none)) = some r := by first | (rw [hji11] at H; exact H) | (simp only [hji11] at H ⊢; exact H)
  have hji11_ : (a2 / 2 ^ min (ji9).toNat 64) = ji11 := hji11
  have hji11z : (ji9) ≤ 64 → (a2 / 2 ^ (ji9).toNat) = ji11 := shr_small hji11
  by_cases c12 : x7_1.length < 140737488355328
  rotate_left
  ·
   rw [if_neg c12] at H
   exact absurd H (by simp)
  rw [if_pos c12] at H
  have LMc12 := Aside0.mk c12
  clear c12
  obtain ⟨y104, hy104⟩ : ∃ y_ : List Int, y_ = (x7_1 ++ [(ji11) % 256]) := ⟨_, rfl⟩
  replace H : (octets_Put.l0 k1 a2 y104 (wrap64 (x8_1 - 1))) = some r := by first | (rw [hy104]; with_reducible exact H) | (have H2_ := (Option.bind_some _ _).symm.trans H; rw [hy104]; with_reducible exact H2_) | (have H2_ := (Option.bind_some _ _).symm.trans H; with_reducible exact H2_) | with_reducible exact H | (rw [hy104]; exact H) | exact H
  have Ny104 := Aside0.mk hy104
  clear hy104
  have H' := Aside0.mk H
  clear H
  go_wp2_with (first | ((with_reducible refine gate_builtin (b := .append) (xs := #[.tmp 19, .tmp 25]) rfl ?_); at_builtin; refine Kd.R_append (Kd.int .u8) (w0 := w) w.heap.size rfl (.tmp 19) (.tmp 25) 33 5 (.int .u8 0) 1 rfl Try.underlying33 info5 rfl (by decide) (by omega) u7 x7_1 ((ji11) % 256) [.int .u8 ((ji11) % 256)] (fun _ => True) (fun _ => False) rfl rfl ?aP (fun _ hk => hk.elim) ?aF ?aO ?aB ?aS ?aL ?_; (case aP => exact rfl); (case aB => exact (Sq.kl HB)); (case aF => exact (fun _ _ => trivial)); (case aO => exact (kr HO_7)); (case aS => exact (below_size (Sq.kl HB))); (case aL => have := LMc12.out; omega); intro v105 w13 ho hb hg hat; rw [← Ny104.out] at ho; replace HB := Aside0.mk (hb); have HO106 := Aside0.mk (ho); clear HO_7; clear ho hb hg hat))
  go_roundg k1
  case measure => have := HK1.out; omega
  case rel => exact ⟨(y104), (wrap64 (x8_1 - 1)), (by first | rfl | (simp; done) | (simp [*]; done)), H', ⟨by have := HK1.out; omega⟩, ⟨by (with_reducible repeat (first | apply Kd.R_alloc | apply Kd.R_drewN | apply Kd.R_drew)); exact HO106.out⟩, ⟨Sq.kl HB⟩⟩
def octets_Int.f (l0 : List Int) (a1 : Int) (a2 : Int) : Option (Int × Bool) := (octets_Uint.f l0 a1 a2).bind fun bt107 => (if bt107.2 = true then (if 0 ≤ (wrap64 (8 * (wrap64 (8 - a2)))) then (some (shr .i64 (wrap64 (shl .u64 bt107.1 (wrap64 (8 * (wrap64 (8 - a2)))))) (wrap64 (8 * (wrap64 (8 - a2)))), true)) else (none)) else (some (0, false)))
set_option maxHeartbeats 8000000 in
set_option maxRecDepth 100000 in
theorem octets_Int.calls (A0 : Option Addr) (c0 : Nat) (l0 : List Int) (a1 : Int) (a2 : Int) (r1 : Int) (r2 : Bool) (w : World) (hr0 : Kd.C (Kd.int .u8) w A0 l0.length l0) (hc0 : l0.length ≤ c0) (h : octets_Int.f l0 a1 a2 = some (r1, r2)) :
  Calls Try.prog 53 #[.slice A0 l0.length c0, .int .i64 a1, .int .i64 a2] w fun e w' => e = .returned (.tuple #[.int .i64 r1, .bool r2]) ∧ Drawn0 w w' := by
 have HR0 := Aside0.mk hr0
 have HC0 := Aside0.mk hc0
 clear hr0 hc0
 have H : ((octets_Uint.f l0 a1 a2).bind fun bt107 => (if bt107.2 = true then (if 0 ≤ (wrap64 (8 * (wrap64 (8 - a2)))) then (some (shr .i64 (wrap64 (shl .u64 bt107.1 (wrap64 (8 * (wrap64 (8 - a2)))))) (wrap64 (8 * (wrap64 (8 - a2)))), true)) else (none)) else (some (0, false)))) = some (r1, r2) := h
 clear h
 replace H := Option.bind_eq_some_iff.mp H
 obtain ⟨⟨t107, t108⟩, A40, H⟩ := H
 replace H : (if t108 = true then (if 0 ≤ (wrap64 (8 * (wrap64 (8 - a2)))) then (some (shr .i64 (wrap64 (shl .u64 t107 (wrap64 (8 * (wrap64 (8 - a2)))))) (wrap64 (8 * (wrap64 (8 - a2)))), true)) else (none)) else (some (0, false))) = some (r1, r2) := H
 have A4 := Aside0.mk A40
 clear A40
 by_cases c5 : t108 = true
 rotate_left
 ·
  replace c5 := Bool.eq_false_iff.mpr c5
  subst c5
  rw [if_neg (show ¬ (false = true) by decide)] at H
  simp only [Option.some.injEq, Prod.mk.injEq] at H
  obtain ⟨rfl, rfl⟩ := H
  go_enter Try.func53, Try.ntmps53
  go_wp2_with (first | ((with_reducible refine gate_callee (f := 58) rfl ?_); refine goesL_ (some 15) rfl rfl Try.func58 (by kernel_rfl) rfl #[.slice A0 l0.length c0, .int .i64 a1, .int .i64 a2] rfl (by (try simp only [List.map_toArray, List.map_cons, List.map_nil]); first | done | rfl | (simp only [List.length_drop, List.length_take]; rfl)) ?_; (with_reducible refine (octets_Uint.calls _ _ l0 a1 a2 t107 false _ ?side1 ?side2 A4.out).mono ?_); (case side1 => repeat (first | exact HR0.out | (with_reducible refine Kd.C_alloc ?_ _) | (with_reducible refine Kd.C_drewN ?_ _) | (with_reducible refine Kd.C_drew ?_))); (case side2 => exact HC0.out); rintro e w' ⟨rfl, ⟨nd, rfl⟩⟩; refine ⟨_, rfl, ?_⟩))
  go_ret2
  exact ⟨by first | rfl | (simp; done) | (simp [*]; done), by repeat (first | exact Drawn0.refl _ | apply Drawn0.step)⟩
 subst c5
 rw [if_pos rfl] at H
 obtain ⟨ji6, hji6⟩ : ∃ j_ : Int, (wrap64 (8 * (wrap64 (8 - a2)))) = j_ := ⟨_, rfl⟩
 replace H : (if 0 ≤ (ji6) then (some (shr .i64 (wrap64 (shl .u64 t107 (ji6))) (ji6), true)) else (none)) = some (r1, r2) := by first | (rw [hji6] at H; exact H) | (simp only [hji6] at H ⊢; exact H)
 (try rw [hji6] at A4)
 have hji6w : (IntKind.i64.wrap (8 * (wrap64 (8 - a2)))) = ji6 := (i64_w _).trans hji6
 by_cases c7 : 0 ≤ (ji6)
 rotate_left
 ·
  rw [if_neg c7] at H
  exact absurd H (by simp)
 rw [if_pos c7] at H
 have c7b0 := eq_true c7
 have c7b1 : decide (0 ≤ (ji6)) = true := decide_eq_true c7
 clear c7
 obtain ⟨ji8, hji8⟩ : ∃ j_ : Int, (shl .u64 t107 (ji6)) = j_ := ⟨_, rfl⟩
 replace H : (some (shr .i64 (wrap64 (ji8)) (ji6), true)) = some (r1, r2) := by first | (rw [hji8] at H; exact H) | (simp only [hji8] at H ⊢; exact H)
 (try rw [hji8] at A4)
 have hji8_ : (IntKind.u64.wrap (t107 * 2 ^ min (ji6).toNat 64)) = ji8 := hji8
 have hji8z : (ji6) ≤ 64 → (IntKind.u64.wrap (t107 * 2 ^ (ji6).toNat)) = ji8 := shl_small hji8
 have c9b0 := eq_true (of_decide_eq_true (by first | (with_reducible assumption) | assumption) : 0 ≤ (ji6))
 obtain ⟨ji10, hji10⟩ : ∃ j_ : Int, (shr .i64 (wrap64 (ji8)) (ji6)) = j_ := ⟨_, rfl⟩
 replace H : (some (ji10, true)) = some (r1, r2) := by first | (rw [hji10] at H; exact H) | (simp only [hji10] at H ⊢; exact H)
 (try rw [hji10] at A4)
 have hji10_ : ((wrap64 (ji8)) / 2 ^ min (ji6).toNat 64) = ji10 := hji10
 have hji10z : (ji6) ≤ 64 → ((wrap64 (ji8)) / 2 ^ (ji6).toNat) = ji10 := shr_small hji10
 simp only [Option.some.injEq, Prod.mk.injEq] at H
 obtain ⟨rfl, rfl⟩ := H
 go_enter Try.func53, Try.ntmps53
 go_wp2_with (first | ((with_reducible refine gate_callee (f := 58) rfl ?_); refine goesL_ (some 15) rfl rfl Try.func58 (by kernel_rfl) rfl #[.slice A0 l0.length c0, .int .i64 a1, .int .i64 a2] rfl (by (try simp only [List.map_toArray, List.map_cons, List.map_nil]); first | done | rfl | (simp only [List.length_drop, List.length_take]; rfl)) ?_; (with_reducible refine (octets_Uint.calls _ _ l0 a1 a2 t107 true _ ?side1 ?side2 A4.out).mono ?_); (case side1 => repeat (first | exact HR0.out | (with_reducible refine Kd.C_alloc ?_ _) | (with_reducible refine Kd.C_drewN ?_ _) | (with_reducible refine Kd.C_drew ?_))); (case side2 => exact HC0.out); rintro e w' ⟨rfl, ⟨nd, rfl⟩⟩; refine ⟨_, rfl, ?_⟩))
 go_ret2
 exact ⟨by first | rfl | (simp; done) | (simp only [← hji6, ← hji8, ← hji10] <;> (first | rfl | simp)) | (simp [*]; done), by repeat (first | exact Drawn0.refl _ | apply Drawn0.step)⟩
end Go.Proofs.Ythobnoknbdljgaa.PO
end
section
namespace Go.Proofs.Ythobnoknbdljgaa.Hand
open Go.RowKit
def bval (xs : List Int) : Int := xs.foldl (fun a c => a * 256 + c) 0
def Bytes (xs : List Int) : Prop := ∀ x ∈ xs, 0 ≤ x ∧ x < 256
theorem Bytes.take {xs : List Int} (h : Bytes xs) (n : Nat) : Bytes (xs.take n) := fun x hx => h x (List.mem_of_mem_take hx)
theorem Bytes.drop {xs : List Int} (h : Bytes xs) (n : Nat) : Bytes (xs.drop n) := fun x hx => h x (List.mem_of_mem_drop hx)
theorem bval_snoc (xs : List Int) (c : Int) : bval (xs ++ [c]) = bval xs * 256 + c := by simp [bval, List.foldl_append]
theorem foldl_bval (ys : List Int) : ∀ a : Int, ys.foldl (fun a c => a * 256 + c) a = a * 256 ^ ys.length + bval ys := by
 induction ys with
 | nil => intro a; simp [bval]
 | cons y ys ih =>
  intro a
  have e : bval (y :: ys) = ys.foldl (fun a c => a * 256 + c) (0 * 256 + y) := rfl
  rw [List.foldl_cons, ih, e, ih, List.length_cons, Int.pow_succ, Int.add_mul, Int.zero_mul, Int.zero_add, Int.mul_assoc, Int.mul_comm 256 (256 ^ ys.length), Int.add_assoc]
theorem bval_append (xs ys : List Int) : bval (xs ++ ys) = bval xs * 256 ^ ys.length + bval ys := by
 unfold bval
 rw [List.foldl_append]
 exact foldl_bval ys _
theorem bval_cons (x : Int) (ys : List Int) : bval (x :: ys) = x * 256 ^ ys.length + bval ys := by
 have := bval_append [x] ys
 simpa [bval] using this
theorem pow_pos' (n : Nat) : (0 : Int) < 256 ^ n := Int.pow_pos (by decide)
theorem bval_bd (xs : List Int) (h : Bytes xs) : 0 ≤ bval xs ∧ bval xs < 256 ^ xs.length := by
 induction xs with
 | nil => simp [bval]
 | cons x xs ih =>
  have hx := h x (by simp)
  have hi := ih (fun y hy => h y (by simp [hy]))
  have hp := pow_pos' xs.length
  rw [bval_cons, List.length_cons, Int.pow_succ]
  generalize (256 : Int) ^ xs.length = p at *
  constructor
  ·
   have := Int.mul_nonneg hx.1 (Int.le_of_lt hp); omega
  ·
   have h1 : x * p ≤ 255 * p := Int.mul_le_mul_of_nonneg_right (by omega) (by omega)
   omega
theorem pow_mono' {a b : Nat} (h : a ≤ b) : (256 : Int) ^ a ≤ 256 ^ b := by
 obtain ⟨k, rfl⟩ := Nat.exists_eq_add_of_le h
 have h1 := pow_pos' k
 have h2 := pow_pos' a
 rw [Int.pow_add]
 have := Int.mul_le_mul_of_nonneg_left (a := 1) (b := 256 ^ k) (c := 256 ^ a) (by omega) (by omega)
 rw [Int.mul_one] at this
 omega
theorem or_join (a c : Int) (h0 : 0 ≤ a) (h1 : a * 256 + c < 18446744073709551616) (h2 : 0 ≤ c) (h3 : c < 256) :
  Go.bits .or .u64 (IntKind.u64.wrap (a * 256)) (IntKind.u64.wrap c) = a * 256 + c := by
 have e1 : IntKind.u64.wrap (a * 256) = a * 256 := by rw [IntKind.wrap_u64]; omega
 have e2 : IntKind.u64.wrap c = c := by rw [IntKind.wrap_u64]; omega
 rw [e1, e2]
 exact bits_join .u64 64 (by decide) (fun n h0 h1 => by rw [IntKind.wrap_u64]; omega) 8 (a * 256) c (by omega) (by omega) (by omega) (by omega) (by omega) (by omega)
theorem uval_bval (xs : List Int) (h : Bytes xs) (hl : xs.length ≤ 8) : uval xs = bval xs := by
 suffices key : ∀ n, n ≤ xs.length → uval (xs.take n) = bval (xs.take n) by
  have := key xs.length (Nat.le_refl _)
  rwa [List.take_length] at this
 intro n
 induction n with
 | zero => intro _; simp [uval, bval]
 | succ n ih =>
  intro hn
  have e : xs.take (n + 1) = xs.take n ++ [xs[n]] := by rw [List.take_succ_eq_append_getElem (by omega)]
  have hb := bval_bd (xs.take n) (h.take n)
  have hx := h xs[n] (List.getElem_mem _)
  have hlen : (xs.take n).length = n := by rw [List.length_take]; omega
  rw [hlen] at hb
  have hp := pow_mono' (show n ≤ 7 by omega)
  have h7 : (256 : Int) ^ 7 = 72057594037927936 := by decide +kernel
  rw [e, uval_snoc, bval_snoc, ih (by omega)]
  exact or_join _ _ hb.1 (by omega) hx.1 hx.2
def be : Nat → Int → List Int
 | 0, _ => []
 | m + 1, n => (n / 256 ^ m % 256) :: be m n
theorem be_len (m : Nat) (n : Int) : (be m n).length = m := by
 induction m with
 | zero => rfl
 | succ m ih => simp [be, ih]
end Go.Proofs.Ythobnoknbdljgaa.Hand
end
section
namespace Go.Proofs.Ythobnoknbdljgaa.Oct
open Go.RowKit Hand PO Go.Proofs.YthobnoknbdljgaaW.PrintWords
theorem w64 {n : Int} (h1 : -9223372036854775808 ≤ n) (h2 : n ≤ 9223372036854775807) : wrap64 n = n := by
 unfold wrap64
 omega
theorem shr_pow (n : Int) (j : Nat) (hj : j ≤ 7) : shr .u64 n (8 * (j : Int)) = n / 256 ^ j := by
 have hc : j = 0 ∨ j = 1 ∨ j = 2 ∨ j = 3 ∨ j = 4 ∨ j = 5 ∨ j = 6 ∨ j = 7 := by omega
 rcases hc with h | h | h | h | h | h | h | h <;> subst h <;> rfl
theorem put_l (n : Int) (m : Nat) : ∀ (k : Nat) (xs : List Int), m ≤ 8 → m < k → xs.length + m < 140737488355328 → octets_Put.l0 k n xs ((m : Int) - 1) = some (xs ++ be m n) := by
 induction m with
 | zero =>
  intro k xs _ hk _
  obtain ⟨k, rfl⟩ : ∃ j, k = j + 1 := ⟨k - 1, by omega⟩
  simp only [octets_Put.l0]
  rw [if_neg (by omega)]
  simp [be]
 | succ m ih =>
  intro k xs hm hk hl
  obtain ⟨k, rfl⟩ : ∃ j, k = j + 1 := ⟨k - 1, by omega⟩
  have e : ((m + 1 : Nat) : Int) - 1 = m := by omega
  rw [e]
  simp only [octets_Put.l0]
  rw [if_pos (by omega), w64 (n := 8 * (m : Int)) (by omega) (by omega), if_pos (by omega), if_pos (by omega), w64 (n := (m : Int) - 1) (by omega) (by omega), shr_pow n m (by omega),
   ih k _ (by omega) (by omega) (by simp; omega)]
  simp [be]
theorem put_f (k : Nat) (hk : 10 ≤ k) (l0 : List Int) (hl : l0.length < 140737488350000) (m : Nat) (hm : m ≤ 8) (n : Int) : octets_Put.f k l0 m n = some (l0 ++ be m n) := by
 unfold octets_Put.f slices_Clone_byte_byte.f
 rw [if_pos (by omega)]
 simp only [Option.bind_some]
 have e : mn (mx (m : Int) 0) 8 - 1 = (m : Int) - 1 := by unfold mn mx; repeat' split <;> omega
 rw [e, put_l n m k l0 hm (by omega) (by omega)]
def sgn (m : Nat) (u : Int) : Int := shr .i64 (wrap64 (shl .u64 u (wrap64 (8 * (wrap64 (8 - (m : Int))))))) (wrap64 (8 * (wrap64 (8 - (m : Int)))))
theorem bytes_wf {l : List Int} (h : ∀ x ∈ l, (Lit.int .u8 x).wf = true) : Bytes l := fun x hx => by
 have := bounds_u8 (h x hx); omega
theorem u64_w (n : Int) : IntKind.u64.wrap n = n % 18446744073709551616 := IntKind.wrap_u64 n
theorem sgn_eq (m : Nat) (h1 : 1 ≤ m) (h2 : m ≤ 8) (u : Int) : sgn m u = wrap64 (u * 2 ^ (64 - 8 * m) % 18446744073709551616) / 2 ^ (64 - 8 * m) := by
 have hc : m = 1 ∨ m = 2 ∨ m = 3 ∨ m = 4 ∨ m = 5 ∨ m = 6 ∨ m = 7 ∨ m = 8 := by omega
 have key : ∀ (e1 e2 : Nat), e1 = 64 - 8 * m → e2 = 64 - 8 * m → wrap64 (IntKind.u64.wrap (u * 2 ^ e1)) / 2 ^ e2 = wrap64 (u * 2 ^ (64 - 8 * m) % 18446744073709551616) / 2 ^ (64 - 8 * m) := by
  intro e1 e2 h1 h2
  subst h1 h2
  rw [u64_w]
 exact key _ _ (by rcases hc with h | h | h | h | h | h | h | h <;> subst h <;> decide +kernel) (by rcases hc with h | h | h | h | h | h | h | h <;> subst h <;> decide +kernel)
theorem sv1 (u : Int) (h3 : 0 ≤ u) (h4 : u < 256) : wrap64 (u * 72057594037927936 % 18446744073709551616) / 72057594037927936 = if 256 ≤ 2 * u then u - 256 else u := by
 unfold wrap64
 split <;> omega
theorem p1 : (2 : Int) ^ (64 - 8 * 1) = 72057594037927936 := by decide +kernel
theorem q1 : (256 : Int) ^ 1 = 256 := by decide +kernel
theorem sv2 (u : Int) (h3 : 0 ≤ u) (h4 : u < 65536) : wrap64 (u * 281474976710656 % 18446744073709551616) / 281474976710656 = if 65536 ≤ 2 * u then u - 65536 else u := by
 unfold wrap64
 split <;> omega
theorem p2 : (2 : Int) ^ (64 - 8 * 2) = 281474976710656 := by decide +kernel
theorem q2 : (256 : Int) ^ 2 = 65536 := by decide +kernel
theorem sv3 (u : Int) (h3 : 0 ≤ u) (h4 : u < 16777216) : wrap64 (u * 1099511627776 % 18446744073709551616) / 1099511627776 = if 16777216 ≤ 2 * u then u - 16777216 else u := by
 unfold wrap64
 split <;> omega
theorem p3 : (2 : Int) ^ (64 - 8 * 3) = 1099511627776 := by decide +kernel
theorem q3 : (256 : Int) ^ 3 = 16777216 := by decide +kernel
theorem sv4 (u : Int) (h3 : 0 ≤ u) (h4 : u < 4294967296) : wrap64 (u * 4294967296 % 18446744073709551616) / 4294967296 = if 4294967296 ≤ 2 * u then u - 4294967296 else u := by
 unfold wrap64
 split <;> omega
theorem p4 : (2 : Int) ^ (64 - 8 * 4) = 4294967296 := by decide +kernel
theorem q4 : (256 : Int) ^ 4 = 4294967296 := by decide +kernel
theorem sv5 (u : Int) (h3 : 0 ≤ u) (h4 : u < 1099511627776) : wrap64 (u * 16777216 % 18446744073709551616) / 16777216 = if 1099511627776 ≤ 2 * u then u - 1099511627776 else u := by
 unfold wrap64
 split <;> omega
theorem p5 : (2 : Int) ^ (64 - 8 * 5) = 16777216 := by decide +kernel
theorem q5 : (256 : Int) ^ 5 = 1099511627776 := by decide +kernel
theorem sv6 (u : Int) (h3 : 0 ≤ u) (h4 : u < 281474976710656) : wrap64 (u * 65536 % 18446744073709551616) / 65536 = if 281474976710656 ≤ 2 * u then u - 281474976710656 else u := by
 unfold wrap64
 split <;> omega
theorem p6 : (2 : Int) ^ (64 - 8 * 6) = 65536 := by decide +kernel
theorem q6 : (256 : Int) ^ 6 = 281474976710656 := by decide +kernel
theorem sv7 (u : Int) (h3 : 0 ≤ u) (h4 : u < 72057594037927936) : wrap64 (u * 256 % 18446744073709551616) / 256 = if 72057594037927936 ≤ 2 * u then u - 72057594037927936 else u := by
 unfold wrap64
 split <;> omega
theorem p7 : (2 : Int) ^ (64 - 8 * 7) = 256 := by decide +kernel
theorem q7 : (256 : Int) ^ 7 = 72057594037927936 := by decide +kernel
theorem sv8 (u : Int) (h3 : 0 ≤ u) (h4 : u < 18446744073709551616) : wrap64 (u * 1 % 18446744073709551616) / 1 = if 18446744073709551616 ≤ 2 * u then u - 18446744073709551616 else u := by
 unfold wrap64
 split <;> omega
theorem p8 : (2 : Int) ^ (64 - 8 * 8) = 1 := by decide +kernel
theorem q8 : (256 : Int) ^ 8 = 18446744073709551616 := by decide +kernel
theorem sgn_val (m : Nat) (h1 : 1 ≤ m) (h2 : m ≤ 8) (u : Int) (h3 : 0 ≤ u) (h4 : u < 256 ^ m) : sgn m u = if 256 ^ m ≤ 2 * u then u - 256 ^ m else u := by
 have hc : m = 1 ∨ m = 2 ∨ m = 3 ∨ m = 4 ∨ m = 5 ∨ m = 6 ∨ m = 7 ∨ m = 8 := by omega
 rw [sgn_eq m h1 h2]
 rcases hc with h | h | h | h | h | h | h | h
 ·
  subst h; rw [q1] at h4; rw [p1, q1]; exact sv1 u h3 h4
 ·
  subst h; rw [q2] at h4; rw [p2, q2]; exact sv2 u h3 h4
 ·
  subst h; rw [q3] at h4; rw [p3, q3]; exact sv3 u h3 h4
 ·
  subst h; rw [q4] at h4; rw [p4, q4]; exact sv4 u h3 h4
 ·
  subst h; rw [q5] at h4; rw [p5, q5]; exact sv5 u h3 h4
 ·
  subst h; rw [q6] at h4; rw [p6, q6]; exact sv6 u h3 h4
 ·
  subst h; rw [q7] at h4; rw [p7, q7]; exact sv7 u h3 h4
 ·
  subst h; rw [q8] at h4; rw [p8, q8]; exact sv8 u h3 h4
end Go.Proofs.Ythobnoknbdljgaa.Oct
end
section
namespace Go.Proofs.Ythobnoknbdljgaa.Hand
open Go.RowKit Go.Proofs.YthobnoknbdljgaaW.PrintWords Go.Proofs.YthobnoknbdljgaaW.PrintLast Go.Proofs.YthobnoknbdljgaaW.PrintMore PB0
set_option linter.unusedVariables false
set_option linter.unusedSimpArgs false
theorem slice0 (W : World) (g n cap : Nat) : (Instr.slice 33 (.slice (some ⟨g, 0, none⟩) n cap) none (some (.int .i64 0)) none).run Try.prog W = .ok (.slice (some ⟨g, 0, none⟩) 0 cap) W := by
 obtain ⟨i0, hi, hz0, hz1, hz2⟩ := info_parts info_u8
 have hel : Try.prog.elem 33 = 5 := by simp [Program.elem, Try.underlying33]
 have hu : Try.prog.underlying 33 = some (.slice (Try.prog.elem 33)) := by rw [hel]; exact Try.underlying33
 rw [run_slice_h W 33 _ n cap hu .i64 0 (by omega) (by omega), hel]
 simp [sizeOf, typeInfo, hi, hz1, sliced, Result.andThen, Addr.add]
set_option maxHeartbeats 4000000 in
set_option maxRecDepth 100000 in
theorem slices_Grow_nil.calls (n : Nat) (hn : n ≤ 100000000000) (w : World) :
  Calls Try.prog 50 #[.slice none 0 0, .int .i64 (n : Int)] w fun e w' => ∃ v, e = .returned v ∧ Kd.R (Kd.int .u8) 5 w' w.heap.size (fun _ => True) v [] ∧ Below w.heap.size w w' := by
 have c0 : decide ((n : Int) < 0) = false := decide_eq_false (by omega)
 by_cases hz : n = 0
 ·
  subst hz
  go_enter Try.func50, Try.ntmps50
  go_wp2
  go_ret
  exact ⟨_, rfl, Kd.R_nil _ _ _ _ _, Below.refl _ _⟩
 ·
  have c1 : decide (0 < (n : Int)) = true := decide_eq_true (by omega)
  have c1n : decide (0 < n) = true := decide_eq_true (by omega)
  go_enter Try.func50, Try.ntmps50
  go_wp2_with (first | (at_builtin; refine Kd.R_append_zeros (Kd.int .u8) (w0 := w) w.heap.size rfl _ _ 33 3 5 (.int .u8 0) 1 rfl Try.underlying33 Try.underlying3 info_u8 rfl (by decide) (by omega) (.slice none 0 0) [] 0 (n : Int) (fun _ => True) rfl rfl rfl (fun _ _ => trivial) (Kd.R_nil _ _ _ _ _) (by omega) (Below.refl _ _) (Nat.le_refl _) (by simp; omega) ?_; intro v1 w1 ho hb hg hat))
  rw [List.nil_append, Int.toNat_natCast] at ho
  obtain ⟨g, cap, rfl, _, _, _⟩ := Kd.R_form ho (by rw [List.length_replicate]; omega)
  rw [List.length_replicate] at ho ⊢
  rw [slice0 w1 g n cap]
  simp only [Result.andThen]
  rw [Oper.upon_value]
  go_wp2
  go_ret
  exact ⟨_, rfl, Kd.R_take (m := 0) ho (Nat.zero_le _), hb⟩
def rd_L7 (xs : List (List Int)) (i : Int) : (List Int) := xs.getD i.toNat ([] : List Int)
theorem at_L7 {w : World} {A : Option Addr} {n : Nat} {xs : List (List Int)} (h : Kd.C (Kd.slice 5 (Kd.int .u8)) w A n xs) (i : Int) (h0 : 0 ≤ i) (h1 : i < n) : ∃ ad A0 c0, A = some ad ∧ w.cell? (ad.add i.toNat) = some (.slice A0 (rd_L7 xs i).length c0) ∧ (rd_L7 xs i).length ≤ c0 ∧ (Kd.int .u8).C w A0 (rd_L7 xs i).length (rd_L7 xs i) := by
 obtain ⟨ad, c, e, _, hK, hc0⟩ := Kd.C_get h ([] : List Int) i h0 h1
 have hc : ∀ j u, c[j]? = some u → w.cell? (ad.add (i.toNat * 1 + j)) = some u := hc0
 obtain ⟨A0, c0, rfl, l0, g0⟩ := hK
 exact ⟨ad, A0, c0, e, by have hq := hc 0 _ rfl; rwa [Nat.mul_one, Nat.add_zero] at hq, l0, g0⟩
def slices_Concat_byte_byte.f (l0 : List (List Int)) : Option (List Int) := if l0.length ≤ 10 ∧ (l0.map List.length).sum ≤ 10000000 then some l0.flatten else none
theorem rdL (l : List (List Int)) (k : Nat) (h : k < l.length) : l.take (k + 1) = l.take k ++ [rd_L7 l (k : Int)] := by
 unfold rd_L7
 rw [List.take_add_one, Int.toNat_natCast, List.getD_eq_getElem?_getD, List.getElem?_eq_getElem h]
 rfl
theorem sum_take (l : List (List Int)) (k : Nat) : ((l.take k).map List.length).sum ≤ (l.map List.length).sum := by
 have h : (l.map List.length).sum = ((l.take k).map List.length).sum + ((l.drop k).map List.length).sum := by
  rw [← List.sum_append, ← List.map_append, List.take_append_drop]
 omega
theorem flat_len (l : List (List Int)) : l.flatten.length = (l.map List.length).sum := by
 rw [List.length_flatten]
set_option maxHeartbeats 4000000 in
set_option maxRecDepth 100000 in
theorem slices_Concat_byte_byte.calls (A0 : Option Addr) (c0 : Nat) (l0 : List (List Int)) (r : List Int) (w : World) (hr0 : Kd.C (Kd.slice 5 (Kd.int .u8)) w A0 l0.length l0) (hc0 : l0.length ≤ c0) (h : slices_Concat_byte_byte.f l0 = some r) :
  Calls Try.prog 28 #[.slice A0 l0.length c0] w fun e w' => ∃ v0_ : Value, e = .returned v0_ ∧ Kd.R (Kd.int .u8) 5 w' w.heap.size (fun _ => True) v0_ r ∧ Below w.heap.size w w' := by
 obtain ⟨hn, hsum, rfl⟩ : l0.length ≤ 10 ∧ (l0.map List.length).sum ≤ 10000000 ∧ l0.flatten = r := by
  unfold slices_Concat_byte_byte.f at h
  split at h
  rotate_left
  ·
   cases h
  rename_i hh
  exact ⟨hh.1, hh.2, Option.some.inj h⟩
 have HR0 := Aside0.mk hr0
 clear h hr0
 go_enter Try.func28, Try.ntmps28
 go_wp2
 go_loopw [3, 11] (fun z i wr => ∃ k : Nat, k ≤ l0.length ∧ i = .int .i64 k ∧ z = .int .i64 (((l0.take k).map List.length).sum : Nat) ∧ wr = w) (fun _ i _ => l0.length - (intOf i).toNat)
 case atStart => exact ⟨0, Nat.zero_le _, rfl, rfl, rfl⟩
 obtain ⟨k, hk, rfl, rfl, hw⟩ := hrel
 have hw2 := hw.symm
 clear hw
 subst hw2
 by_cases hlt : k < l0.length
 ·
  have cl : decide ((k : Int) < (l0.length : Int)) = true := decide_eq_true (by omega)
  obtain ⟨ad, B0, d0, eA, hx0, hd0, hC⟩ := at_L7 HR0.out (k : Int) (by omega) (by omega)
  subst eA
  rw [Int.toNat_natCast] at hx0
  have hs := sum_take l0 (k + 1)
  rw [rdL l0 k hlt, List.map_append, List.sum_append] at hs
  have hs2 : ((([rd_L7 l0 (k : Int)] : List (List Int)).map List.length).sum : Nat) = (rd_L7 l0 (k : Int)).length := by simp
  rw [hs2] at hs
  have HS := Aside0.mk (show (((l0.take (k + 1)).map List.length).sum : Nat) = ((l0.take k).map List.length).sum + (rd_L7 l0 (k : Int)).length by rw [rdL l0 k hlt, List.map_append, List.sum_append, hs2])
  obtain ⟨sm, hsm⟩ : ∃ q, q = ((l0.take k).map List.length).sum := ⟨_, rfl⟩
  rw [← hsm] at hs HS ⊢
  obtain ⟨le, hle⟩ : ∃ q, q = (rd_L7 l0 (k : Int)).length := ⟨_, rfl⟩
  rw [← hle] at hs HS hx0
  clear hs2 hsm hle hC
  have cn : decide (((sm : Nat) : Int) + ((le : Nat) : Int) < 0) = false := decide_eq_false (by omega)
  have cw : wrap64 (((sm : Nat) : Int) + ((le : Nat) : Int)) = ((sm + le : Nat) : Int) := by rw [w64 (by omega) (by omega)]; omega
  go_wp2
  go_roundw
  case rel => exact ⟨k + 1, by omega, by go_num, by rw [HS.out]; first | rfl | (rw [cw]) | (congr 1; omega), by first | rfl | trivial⟩
  case measure => simp [intOf]; omega
 have hkl : k = l0.length := by omega
 subst hkl
 have cl : decide ((l0.length : Int) < (l0.length : Int)) = false := decide_eq_false (by omega)
 have htk : l0.take l0.length = l0 := List.take_of_length_le (Nat.le_refl _)
 rw [htk]
 obtain ⟨sm, hsm⟩ : ∃ q, q = (l0.map List.length).sum := ⟨_, rfl⟩
 rw [← hsm] at hsum ⊢
 have HSM := Aside0.mk hsm
 clear htk hsm hlt hk
 have HG := Aside0.mk (slices_Grow_nil.calls sm (by omega) w)
 go_upto_region 10 with (go_at_call 50; refine (HG.out).mono ?_; rintro e w2 ⟨v2, rfl, ho, hb⟩)
 have HO := Aside0.mk ho
 have HB := Aside0.mk hb
 clear ho hb
 go_wp2
 go_loopw [6, 27] (fun v i wQ => ∃ k : Nat, k ≤ l0.length ∧ i = .int .i64 k ∧ Kd.R (Kd.int .u8) 5 wQ w.heap.size (fun _ => True) v (l0.take k).flatten ∧ Below w.heap.size w wQ) (fun _ i _ => l0.length - (intOf i).toNat)
 case atStart => exact ⟨0, Nat.zero_le _, rfl, HO.out, HB.out⟩
 clear HO HB HG
 obtain ⟨k, hk, rfl, hR, hBl⟩ := hrel
 have HO := Aside0.mk hR
 have HB := Aside0.mk hBl
 clear hR hBl
 by_cases hlt : k < l0.length
 rotate_left
 ·
  have hkl : k = l0.length := by omega
  subst hkl
  have ck : decide ((l0.length : Int) < (l0.length : Int)) = false := decide_eq_false (by omega)
  have htk : l0.take l0.length = l0 := List.take_of_length_le (Nat.le_refl _)
  rw [htk] at HO
  clear htk hlt hk
  go_wp2
  go_ret
  exact ⟨_, rfl, HO.out, HB.out⟩
 have ck : decide ((k : Int) < (l0.length : Int)) = true := decide_eq_true (by omega)
 obtain ⟨ad, B0, d0, eA, hx0, hd0, hC⟩ := at_L7 HR0.out (k : Int) (by omega) (by omega)
 subst eA
 rw [Int.toNat_natCast] at hx0
 have hf := rdL l0 k hlt
 have HFL := Aside0.mk (show (l0.take (k + 1)).flatten = (l0.take k).flatten ++ rd_L7 l0 (k : Int) by rw [hf]; simp)
 have hs := sum_take l0 (k + 1)
 rw [hf, List.map_append, List.sum_append] at hs
 have hs2 : ((([rd_L7 l0 (k : Int)] : List (List Int)).map List.length).sum : Nat) = (rd_L7 l0 (k : Int)).length := by simp
 rw [hs2, ← HSM.out, ← flat_len] at hs
 obtain ⟨xs, hxs⟩ : ∃ q, q = (l0.take k).flatten := ⟨_, rfl⟩
 obtain ⟨ys, hys⟩ : ∃ q, q = rd_L7 l0 (k : Int) := ⟨_, rfl⟩
 rw [← hxs, ← hys] at hs HFL
 rw [← hxs] at HO
 rw [← hys] at hx0 hd0 hC
 replace hx0 := (HB.out.cell (World.block_lt_of_cell? w _ hx0)).trans hx0
 have HC := Aside0.mk (Kd.C_below hC HB.out)
 clear hf hs2 hxs hys hC
 go_wp2_with (first | ((with_reducible refine gate_builtin (b := .append) (xs := #[.tmp 31, .tmp 32]) rfl ?_); at_builtin; refine Kd.R_append_rows (Kd.int .u8) (w0 := w) w.heap.size rfl (.tmp 31) (.tmp 32) 33 5 (.int .u8 0) 1 rfl Try.underlying33 info_u8 rfl (by decide) (by omega) _ xs ys _ _ _ (fun _ => True) (fun _ => False) rfl rfl HO.out HC.out (fun _ _ h => h) (fun _ h => h.elim) (fun _ _ => trivial) HB.out HB.out.size (by omega) ?_; intro v4 w4 ho hb hg hat; clear HO HB; have HO := Aside0.mk ho; have HB := Aside0.mk hb; clear ho hb hg hat))
 go_roundw
 case rel => exact ⟨k + 1, by omega, by go_num, by rw [HFL.out]; exact HO.out, HB.out⟩
 case measure => simp [intOf]; omega
end Go.Proofs.Ythobnoknbdljgaa.Hand
end
section
namespace Go.Proofs.Ythobnoknbdljgaa
open Go.RowKit Hand PB0 Go.Proofs.YthobnoknbdljgaaW.PrintWords
def u64w (n : Int) : Int := IntKind.u64.wrap n
def b1 (b : Bool) : Int := if b = true then 1 else 0
def jA (m : Nat) (j : S54) : List Int := be m (u64w j.f0)
def jB (j : S54) : List Int := [j.f1 % 256]
def kA (x : S56 × Int) : List Int := be 4 (u64w x.1.f0) ++ [b1 x.1.f1] ++ [x.2]
def lA (m : Nat) (l : S67) : List Int := be m (u64w l.f0) ++ be 4 (u64w l.f1)
def tr (l : List Bool) : List Int := l.map b1
def encL (m : Nat) (l0 : List S56) (l1 : List S54) (l2 : List S67) (l3 l4 : List Bool) : List Int :=
 l1.flatMap (jA m) ++ l1.flatMap jB ++ (l0.zip (nmSt (names l0)).2.2).flatMap kA ++ bytesOf ⟨(nmSt (names l0)).1.toArray⟩ ++ l2.flatMap (lA m) ++ tr l3 ++ tr l4
theorem kA_len (x : S56 × Int) : (kA x).length = 6 := by unfold kA; rw [List.length_append, List.length_append, be_len]; rfl
theorem rd54 (l : List S54) (k : Nat) (h : k < l.length) : rd_T54 l (k : Int) = l[k] := by
 unfold rd_T54
 rw [Int.toNat_natCast, List.getD_eq_getElem?_getD, List.getElem?_eq_getElem h]
 rfl
theorem rd56 (l : List S56) (k : Nat) (h : k < l.length) : rd_T56 l (k : Int) = l[k] := by
 unfold rd_T56
 rw [Int.toNat_natCast, List.getD_eq_getElem?_getD, List.getElem?_eq_getElem h]
 rfl
theorem rd67 (l : List S67) (k : Nat) (h : k < l.length) : rd_T67 l (k : Int) = l[k] := by
 unfold rd_T67
 rw [Int.toNat_natCast, List.getD_eq_getElem?_getD, List.getElem?_eq_getElem h]
 rfl
end Go.Proofs.Ythobnoknbdljgaa
namespace Go.Proofs.Ythobnoknbdljgaa.Hand
open Go.RowKit PB0 Go.Proofs.YthobnoknbdljgaaW.PrintWords
theorem truths_l (l : List Bool) (hl : l.length ≤ 1000000) (d : Nat) : ∀ (k i : Nat), i + d = l.length → d < k → PB0.block_truths.l0 k ((l.take i).map b1 ++ List.replicate d 0) l (l.length : Int) i = some (tr l) := by
 induction d with
 | zero =>
  intro k i hi hk
  obtain ⟨k, rfl⟩ : ∃ m, k = m + 1 := ⟨k - 1, by omega⟩
  rw [PB0.block_truths.l0, if_neg (by omega), List.take_of_length_le (by omega)]
  simp [tr]
 | succ d ih =>
  intro k i hi hk
  obtain ⟨k, rfl⟩ : ∃ m, k = m + 1 := ⟨k - 1, by omega⟩
  have hlt : i < l.length := by omega
  have e : rdOf false l (i : Int) = l[i] := by
   unfold rdOf
   rw [Int.toNat_natCast, List.getD_eq_getElem?_getD, List.getElem?_eq_getElem hlt]
   rfl
  have ht : (l.take (i + 1)).map b1 = (l.take i).map b1 ++ [b1 l[i]] := by
   rw [List.take_add_one, List.getElem?_eq_getElem hlt, List.map_append]
   rfl
  have hm : ((l.take i).map b1).length = i := by rw [List.length_map, List.length_take]; omega
  have ih2 := ih k (i + 1) (by omega) (by omega)
  rw [PB0.block_truths.l0, if_pos (by omega), if_pos (by omega), if_pos (by omega), e, w64 (n := (i : Int) + 1) (by omega) (by omega)]
  rw [ht] at ih2
  cases hb : l[i]
  ·
   rw [if_neg (by decide)]
   rw [hb] at ih2
   rw [List.replicate_succ]
   have : (l.take i).map b1 ++ 0 :: List.replicate d 0 = (l.take i).map b1 ++ [b1 false] ++ List.replicate d 0 := by simp [b1]
   rw [this]
   exact ih2
  ·
   rw [if_pos rfl, if_pos (by rw [List.length_append, List.length_replicate, hm]; omega)]
   rw [hb] at ih2
   have : ((l.take i).map b1 ++ List.replicate (d + 1) 0).set (i : Int).toNat 1 = (l.take i).map b1 ++ [b1 true] ++ List.replicate d 0 := by
    rw [Int.toNat_natCast, List.set_append, if_neg (by omega), hm, Nat.sub_self, List.replicate_succ]
    simp [b1]
   rw [this]
   exact ih2
theorem truths_f (l : List Bool) (hl : l.length ≤ 1000000) : PB0.block_truths.f (l.length + 1) l = some (tr l) := by
 unfold PB0.block_truths.f
 rw [if_pos (by omega), if_pos (by omega), Int.toNat_natCast]
 exact truths_l l hl l.length _ 0 (by omega) (by omega)
theorem truths_c (A0 : Option Addr) (c0 : Nat) (l0 : List Bool) (hl : l0.length ≤ 1000000) (w : World) (hr0 : Kd.C Kd.bool w A0 l0.length l0) (hc0 : l0.length ≤ c0) :
  Calls Try.prog 29 #[.slice A0 l0.length c0] w fun e w' => ∃ v, e = .returned v ∧ Kd.R (Kd.int .u8) 5 w' w.heap.size (fun _ => True) v (tr l0) ∧ Below w.heap.size w w' :=
 PB0.block_truths.calls _ A0 c0 l0 (tr l0) w hr0 hc0 (truths_f l0 hl)
end Go.Proofs.Ythobnoknbdljgaa.Hand
end
section
namespace Go.Proofs.Ythobnoknbdljgaa.Hand
open Go.RowKit PB0
def encOK (l0 : List S56) (l1 : List S54) (l2 : List S67) (l3 l4 : List Bool) : Prop := l0.length ≤ 1000000 ∧ nmSum (names l0) ≤ 1000000 ∧ l1.length ≤ 1000000 ∧ l2.length ≤ 1000000 ∧ l3.length ≤ 1000000 ∧ l4.length ≤ 1000000
instance (l0 : List S56) (l1 : List S54) (l2 : List S67) (l3 l4 : List Bool) : Decidable (encOK l0 l1 l2 l3 l4) := by unfold encOK; infer_instance
end Go.Proofs.Ythobnoknbdljgaa.Hand
namespace Go.Proofs.Ythobnoknbdljgaa.Stub
open Go.RowKit Go.Proofs.YthobnoknbdljgaaW.PrintWords PB0 Hand
def octets_Put.f (l0 : List Int) (a1 a2 : Int) : Option (List Int) := if l0.length < 1000000000 ∧ 0 ≤ a1 ∧ a1 ≤ 8 then some (l0 ++ be a1.toNat a2) else none
theorem octets_Put.calls (A0 : Option Addr) (c0 : Nat) (l0 : List Int) (a1 a2 : Int) (r : List Int) (w : World) (hr0 : Kd.C (Kd.int .u8) w A0 l0.length l0) (hc0 : l0.length ≤ c0) (h : octets_Put.f l0 a1 a2 = some r) :
  Calls Try.prog 26 #[.slice A0 l0.length c0, .int .i64 a1, .int .u64 a2] w fun e w' => ∃ v, e = .returned v ∧ Kd.R (Kd.int .u8) 5 w' w.heap.size (fun _ => True) v r ∧ Below w.heap.size w w' := by
 unfold octets_Put.f at h
 split at h
 ·
  rename_i hh
  obtain rfl := Option.some.inj h
  have e : a1 = ((a1.toNat : Nat) : Int) := by omega
  have hq := PO.octets_Put.calls 10 A0 c0 l0 ((a1.toNat : Nat) : Int) a2 (l0 ++ be a1.toNat a2) w hr0 hc0 (Oct.put_f 10 (Nat.le_refl _) l0 (by omega) a1.toNat (by omega) a2)
  rwa [← e] at hq
 ·
  cases h
def block_truths.f (l0 : List Bool) : Option (List Int) := if l0.length ≤ 1000000 then some (tr l0) else none
theorem block_truths.calls (A0 : Option Addr) (c0 : Nat) (l0 : List Bool) (r : List Int) (w : World) (hr0 : Kd.C Kd.bool w A0 l0.length l0) (hc0 : l0.length ≤ c0) (h : block_truths.f l0 = some r) :
  Calls Try.prog 29 #[.slice A0 l0.length c0] w fun e w' => ∃ v, e = .returned v ∧ Kd.R (Kd.int .u8) 5 w' w.heap.size (fun _ => True) v r ∧ Below w.heap.size w w' := by
 unfold block_truths.f at h
 split at h
 ·
  rename_i hh
  obtain rfl := Option.some.inj h
  exact truths_c A0 c0 l0 hh w hr0 hc0
 ·
  cases h
def block_Right.f (l0 : List S56) (l1 : List S54) (l2 : List S67) (l3 l4 : List Bool) (a1 a2 : Int) : Option Bool := if encOK l0 l1 l2 l3 l4 then some (rightB a1 a2 l0 l1 l2 l3 l4) else none
theorem block_Right.calls (A0_0 : Option Addr) (c0_0 : Nat) (l0_0 : List S56) (A0_1 : Option Addr) (c0_1 : Nat) (l0_1 : List S54) (A0_2 : Option Addr) (c0_2 : Nat) (l0_2 : List S67) (A0_3 : Option Addr) (c0_3 : Nat) (l0_3 : List Bool) (A0_4 : Option Addr) (c0_4 : Nat) (l0_4 : List Bool) (a1 a2 : Int) (r : Bool) (w : World) (hr0_0 : Kd.C k56 w A0_0 l0_0.length l0_0) (hc0_0 : l0_0.length ≤ c0_0) (hr0_1 : Kd.C k54 w A0_1 l0_1.length l0_1) (hc0_1 : l0_1.length ≤ c0_1) (hr0_2 : Kd.C k67 w A0_2 l0_2.length l0_2) (hc0_2 : l0_2.length ≤ c0_2) (hr0_3 : Kd.C Kd.bool w A0_3 l0_3.length l0_3) (hc0_3 : l0_3.length ≤ c0_3) (hr0_4 : Kd.C Kd.bool w A0_4 l0_4.length l0_4) (hc0_4 : l0_4.length ≤ c0_4) (h : block_Right.f l0_0 l0_1 l0_2 l0_3 l0_4 a1 a2 = some r) :
  Calls Try.prog 16 #[.agg #[.slice A0_0 l0_0.length c0_0, .slice A0_1 l0_1.length c0_1, .slice A0_2 l0_2.length c0_2, .slice A0_3 l0_3.length c0_3, .slice A0_4 l0_4.length c0_4], .int .i64 a1, .int .i64 a2] w fun e w' => e = .returned (.bool r) ∧ Below w.heap.size w w' := by
 unfold block_Right.f at h
 split at h
 ·
  rename_i hh
  obtain ⟨q0, q1, q2, q3, q4, q5⟩ := hh
  exact PK.block_Right.calls _ A0_0 c0_0 l0_0 A0_1 c0_1 l0_1 A0_2 c0_2 l0_2 A0_3 c0_3 l0_3 A0_4 c0_4 l0_4 a1 a2 r w hr0_0 hc0_0 hr0_1 hc0_1 hr0_2 hc0_2 hr0_3 hc0_3 hr0_4 hc0_4 ((right_f _ a1 a2 l0_0 l0_1 l0_2 l0_3 l0_4 (Nat.le_refl _) q0 q1 q2 q3).trans h)
 ·
  cases h
end Go.Proofs.Ythobnoknbdljgaa.Stub
end
section
namespace Go.Proofs.Ythobnoknbdljgaa.PE
open Go.Proofs.Ythobnoknbdljgaa.PB0 Sq
open Go.RowKit Go.Proofs.Ythobnoknbdljgaa.Stub Go.Proofs.Ythobnoknbdljgaa.Hand Go.Proofs.YthobnoknbdljgaaW.PrintWords Go.Proofs.YthobnoknbdljgaaW.PrintLast Go.Proofs.YthobnoknbdljgaaW.PrintMore
attribute [local go_sem] max2_int min2_int max_two min_two
set_option linter.unusedVariables false
set_option linter.unusedSimpArgs false
theorem info4 : (Try.prog.info? 4).map (fun i => (i.zero, i.size, i.bytes)) = some (some (.bool false), 1, 1) := by kernel_rfl
end Go.Proofs.Ythobnoknbdljgaa.PE
end
