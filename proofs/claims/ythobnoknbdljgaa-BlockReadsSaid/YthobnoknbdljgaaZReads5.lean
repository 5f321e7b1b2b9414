/- What the claim needs of its texts, one behind the other (laid by a program of the session's). -/
import Derived.Test.YthobnoknbdljgaaZReads4
import Derived.Test.YthobnoknbdljgaaProg
import Derived.Below
import Derived.Deep.Draws
import Derived.Deep.AppendLies
import Derived.Maps.AppendAt
import Derived.OwnWalk
import Derived.Laws.BytesArg
import Derived.Laws.MakeOwn
import Derived.Laws.OwnMore
import Derived.Deep.OwnRows
import Derived.Tactics
import Derived.Lib.ConvBytes
import Derived.Laws.Slices
import Derived.WalkKit
import Derived.KernelRfl
import Derived.RowKit3
import Derived.Deep.LoopGhost
import Derived.Deep.QuietTactic
import Derived.BigQuiet
import Derived.WideLaws
import Derived.Deep.DeepCutAuto
import Derived.Deep.CutBlock
import Derived.Deep.RegionHeld3
import Derived.Laws.Rows
import Derived.Lib.AppendStr
import Derived.ArgAppend
import Derived.Laws.IdiomCopy
import Derived.OrdersHeld
import Derived.Laws.BitsLemmas
import Derived.RowKit
section
namespace Go.Proofs.Ythobnoknbdljgaa.Hand
open Go.RowKit Go.Proofs.YthobnoknbdljgaaW.PrintWords Go.Proofs.YthobnoknbdljgaaW.PrintLast Go.Proofs.YthobnoknbdljgaaW.PrintMore PB0 Sq
set_option linter.unusedVariables false
set_option linter.unusedSimpArgs false
set_option maxHeartbeats 24000000 in
set_option maxRecDepth 100000 in
theorem rr_walk (A0_0 : Option Addr) (c0_0 : Nat) (l0_0 : List S56) (A0_1 : Option Addr) (c0_1 : Nat) (l0_1 : List S54) (A0_2 : Option Addr) (c0_2 : Nat) (l0_2 : List S67) (A0_3 : Option Addr) (c0_3 : Nat) (l0_3 : List Bool) (A0_4 : Option Addr) (c0_4 : Nat) (l0_4 : List Bool) (a1 a2 : Int) (r : Bool) (w : World) (hr0_0 : Kd.C k56 w A0_0 l0_0.length l0_0) (hc0_0 : l0_0.length ≤ c0_0) (hr0_1 : Kd.C k54 w A0_1 l0_1.length l0_1) (hc0_1 : l0_1.length ≤ c0_1) (hr0_2 : Kd.C k67 w A0_2 l0_2.length l0_2) (hc0_2 : l0_2.length ≤ c0_2) (hr0_3 : Kd.C Kd.bool w A0_3 l0_3.length l0_3) (hc0_3 : l0_3.length ≤ c0_3) (hr0_4 : Kd.C Kd.bool w A0_4 l0_4.length l0_4) (hc0_4 : l0_4.length ≤ c0_4) (hok : encOK l0_0 l0_1 l0_2 l0_3 l0_4) (hgl : ∀ x ∈ l0_2, -9223372036854775808 ≤ x.f1 ∧ x.f1 ≤ 9223372036854775807) (hr : rightB a1 a2 l0_0 l0_1 l0_2 l0_3 l0_4 = r) :
  Calls Try.prog 13 #[.agg #[.slice A0_0 l0_0.length c0_0, .slice A0_1 l0_1.length c0_1, .slice A0_2 l0_2.length c0_2, .slice A0_3 l0_3.length c0_3, .slice A0_4 l0_4.length c0_4], .int .i64 a1, .int .i64 a2] w fun e w' => e = .returned (.bool r) ∧ Below w.heap.size w w' := by
 obtain ⟨q0, q1, q2, q3, q4, q5⟩ := hok
 have hl0 := Aside0.mk q0
 have hl3 := Aside0.mk q4
 have hcc0 := Aside0.mk hc0_0
 have hl4 := Aside0.mk q5
 have HR0 := Aside0.mk hr0_0
 have HR1 := Aside0.mk hr0_1
 have HR2 := Aside0.mk hr0_2
 have HR3 := Aside0.mk hr0_3
 have HR4 := Aside0.mk hr0_4
 have HRES := Aside0.mk hr
 have HGL := Aside0.mk hgl
 clear hgl hr hr0_0 hr0_1 hr0_2 hr0_3 hr0_4 hc0_0 hc0_1 hc0_2 hc0_3 hc0_4
 have hu31 := Try.underlying31
 have hu56 := Try.underlying56
 have hu54 := Try.underlying54
 have hu67 := Try.underlying67
 have HB := Aside0.mk (Below.refl w.heap.size w)
 go_enter Try.func13, Try.ntmps13
 go_upto_region 2 with ((with_reducible refine gate_dst (N := 3) rfl ?_); refine box_event ?_ (N := 3) ?_ (cs := #[.slice A0_0 l0_0.length c0_0, .slice A0_1 l0_1.length c0_1, .slice A0_2 l0_2.length c0_2, .slice A0_3 l0_3.length c0_3, .slice A0_4 l0_4.length c0_4]) (t := 31) ?_ ?_; (· rfl); (· rfl); (· first | (go_simp; done) | (go_simp; rfl)); intro g3 hg w1 hbox hb; have Bg3 := Aside0.mk hbox; have GEg3 := Aside0.mk (show w.heap.size ≤ g3 by first | omega | (have h_ := below_size HB.out; omega)); clear hbox hg; have n0_ := Aside0.mk (below_step HB.out hb); clear HB; have HB := n0_; clear n0_ hb; obtain ⟨s0, s1, s2, s3, s4⟩ := Sq.c5 Bg3)
 go_cut [62] (fun v62 wc => ∃ b : Bool, v62 = .bool b ∧ Aside0 (b = true → rightB a1 a2 l0_0 l0_1 l0_2 l0_3 l0_4 = false) ∧ Aside0 (b = false → (a1 = 4 ∨ a1 = 8) ∧ 1 ≤ l0_0.length ∧ l0_0.length ≤ 256 ∧ l0_1.length ≤ 5000 ∧ l0_2.length ≤ 5000 ∧ (l0_3.length = 0 ∨ l0_3.length = l0_0.length) ∧ (l0_4.length = 0 ∨ l0_4.length = l0_0.length)) ∧ Aside0 (wc.heap[g3]? = some (.cells #[.slice A0_0 l0_0.length c0_0, .slice A0_1 l0_1.length c0_1, .slice A0_2 l0_2.length c0_2, .slice A0_3 l0_3.length c0_3, .slice A0_4 l0_4.length c0_4] 31 (0, 0))) ∧ Aside0 (Below w.heap.size w wc))
 case first =>
  as_aux_lemma =>
   by_cases c0 : a1 = 4 ∨ a1 = 8
   case neg =>
    have h4 : (a1 == 4) = false := by simpa using fun e => c0 (.inl e)
    have h8 : (a1 == 8) = false := by simpa using fun e => c0 (.inr e)
    have h4n : (a1 != 4) = true := by rw [bne, h4]; rfl
    have h8n : (a1 != 8) = true := by rw [bne, h8]; rfl
    have HC := Aside0.mk c0
    clear c0
    as_aux_lemma => (go_wp2; go_meet; exact ⟨true, rfl, ⟨fun _ => rb_size HC.out⟩, ⟨fun h => Bool.noConfusion h⟩, Bg3, HB⟩)
   rcases c0 with rfl | rfl
   all_goals
    as_aux_lemma =>
     by_cases c1 : l0_0.length < 1
     ·
      have d_ : decide ((l0_0.length : Int) < 1) = true := decide_eq_true (by omega)
      as_aux_lemma => (go_wp2; go_meet; exact ⟨true, rfl, ⟨fun _ => rb_cnt (by omega)⟩, ⟨fun h => Bool.noConfusion h⟩, Bg3, HB⟩)
     have dc1 : decide ((l0_0.length : Int) < 1) = false := decide_eq_false (by omega)
     by_cases c2 : 256 < l0_0.length
     ·
      have d_ : decide (256 < (l0_0.length : Int)) = true := decide_eq_true (by omega)
      as_aux_lemma => (go_wp2; go_meet; exact ⟨true, rfl, ⟨fun _ => rb_cnt (by omega)⟩, ⟨fun h => Bool.noConfusion h⟩, Bg3, HB⟩)
     have dc2 : decide (256 < (l0_0.length : Int)) = false := decide_eq_false (by omega)
     by_cases c3 : 5000 < l0_1.length
     ·
      have d_ : decide (5000 < (l0_1.length : Int)) = true := decide_eq_true (by omega)
      as_aux_lemma => (go_wp2; go_meet; exact ⟨true, rfl, ⟨fun _ => rb_jl c3⟩, ⟨fun h => Bool.noConfusion h⟩, Bg3, HB⟩)
     have dc3 : decide (5000 < (l0_1.length : Int)) = false := decide_eq_false (by omega)
     by_cases c4 : 5000 < l0_2.length
     ·
      have d_ : decide (5000 < (l0_2.length : Int)) = true := decide_eq_true (by omega)
      as_aux_lemma => (go_wp2; go_meet; exact ⟨true, rfl, ⟨fun _ => rb_ll c4⟩, ⟨fun h => Bool.noConfusion h⟩, Bg3, HB⟩)
     have dc4 : decide (5000 < (l0_2.length : Int)) = false := decide_eq_false (by omega)
     by_cases c5 : l0_3.length = 0 ∨ l0_3.length = l0_0.length
     case neg =>
      have d5 : decide (l0_3.length = 0 ∨ l0_3.length = l0_0.length) = false := decide_eq_false c5
      replace d5 := Aside0.mk d5
      go_wp2_with ((go_at_call 23; (with_reducible refine (rr_marks _ _ _ _ _ hl3.out hl0.out _ d5.out).mono ?_); rintro e w2 ⟨rfl, hb⟩; have n0_ := Aside0.mk (blk_below Bg3.out hb); have n1_ := Aside0.mk (below_step HB.out hb); clear Bg3 HB; have Bg3 := n0_; have HB := n1_; clear n0_ n1_ hb; (try clear t0 t1 t2 t3 t4); obtain ⟨t0, t1, t2, t3, t4⟩ := Sq.c5 Bg3; (try dsimp only))); go_meet; exact ⟨true, rfl, ⟨fun _ => rb_cnt (fun q => c5 q.2.2.1)⟩, ⟨fun h => Bool.noConfusion h⟩, Bg3, HB⟩
     have d5 := Aside0.mk (show decide (l0_3.length = 0 ∨ l0_3.length = l0_0.length) = true from decide_eq_true c5)
     by_cases c6 : l0_4.length = 0 ∨ l0_4.length = l0_0.length
     case neg =>
      have d6 : decide (l0_4.length = 0 ∨ l0_4.length = l0_0.length) = false := decide_eq_false c6
      replace d6 := Aside0.mk d6
      go_wp2_with (first | (go_at_call 23; (with_reducible refine (rr_marks _ _ _ _ _ hl3.out hl0.out _ d5.out).mono ?_); rintro e w2 ⟨rfl, hb⟩; have n0_ := Aside0.mk (blk_below Bg3.out hb); have n1_ := Aside0.mk (below_step HB.out hb); clear Bg3 HB; have Bg3 := n0_; have HB := n1_; clear n0_ n1_ hb; (try clear t0 t1 t2 t3 t4); obtain ⟨t0, t1, t2, t3, t4⟩ := Sq.c5 Bg3; (try dsimp only)) | (go_at_call 23; (with_reducible refine (rr_marks _ _ _ _ _ hl4.out hl0.out _ d6.out).mono ?_); rintro e w2 ⟨rfl, hb⟩; have n0_ := Aside0.mk (blk_below Bg3.out hb); have n1_ := Aside0.mk (below_step HB.out hb); clear Bg3 HB; have Bg3 := n0_; have HB := n1_; clear n0_ n1_ hb; (try clear t0 t1 t2 t3 t4); obtain ⟨t0, t1, t2, t3, t4⟩ := Sq.c5 Bg3; (try dsimp only))); go_meet; exact ⟨true, rfl, ⟨fun _ => rb_cnt (fun q => c6 q.2.2.2)⟩, ⟨fun h => Bool.noConfusion h⟩, Bg3, HB⟩
     have d6 := Aside0.mk (show decide (l0_4.length = 0 ∨ l0_4.length = l0_0.length) = true from decide_eq_true c6)
     go_wp2_with (first | (go_at_call 23; (with_reducible refine (rr_marks _ _ _ _ _ hl3.out hl0.out _ d5.out).mono ?_); rintro e w2 ⟨rfl, hb⟩; have n0_ := Aside0.mk (blk_below Bg3.out hb); have n1_ := Aside0.mk (below_step HB.out hb); clear Bg3 HB; have Bg3 := n0_; have HB := n1_; clear n0_ n1_ hb; (try clear t0 t1 t2 t3 t4); obtain ⟨t0, t1, t2, t3, t4⟩ := Sq.c5 Bg3; (try dsimp only)) | (go_at_call 23; (with_reducible refine (rr_marks _ _ _ _ _ hl4.out hl0.out _ d6.out).mono ?_); rintro e w2 ⟨rfl, hb⟩; have n0_ := Aside0.mk (blk_below Bg3.out hb); have n1_ := Aside0.mk (below_step HB.out hb); clear Bg3 HB; have Bg3 := n0_; have HB := n1_; clear n0_ n1_ hb; (try clear t0 t1 t2 t3 t4); obtain ⟨t0, t1, t2, t3, t4⟩ := Sq.c5 Bg3; (try dsimp only)))
     go_meet
     exact ⟨false, rfl, ⟨fun h => Bool.noConfusion h⟩, ⟨fun _ => ⟨by omega, by omega, by omega, by omega, by omega, c5, c6⟩⟩, Bg3, HB⟩
 clear HB Bg3 s0 s1 s2 s3 s4
 obtain ⟨b_, rfl, hb1, hb2, Bg3, HB⟩ := hcut
 have s0 := (blk_cell Bg3.out 0).trans rfl
 clear s0
 cases b_
 case true =>
  have hz := Aside0.mk (hb1.out rfl)
  clear hb1 hb2
  go_wp2; go_ret; exact ⟨by rw [← HRES.out, hz.out]; rfl, HB.out⟩
 obtain ⟨c0, c1, c2, c3, c4, c5, c6⟩ := hb2.out rfl
 clear hb1 hb2
 have H48 := Aside0.mk c0
 obtain ⟨a1_, ha1⟩ : ∃ x, x = a1 := ⟨_, rfl⟩
 have HA1 := Aside0.mk ha1
 rw [← ha1] at HRES H48
 clear ha1 c0
 go_wp2
 go_loopw [8] (fun i wr => ∃ k : Nat, k ≤ l0_0.length ∧ i = .int .i64 k ∧ Aside0 (∀ j, j < k → kokB l0_0 l0_3 l0_4 j = true) ∧ Aside0 (wr.heap[g3]? = some (.cells #[.slice A0_0 l0_0.length c0_0, .slice A0_1 l0_1.length c0_1, .slice A0_2 l0_2.length c0_2, .slice A0_3 l0_3.length c0_3, .slice A0_4 l0_4.length c0_4] 31 (0, 0))) ∧ Aside0 (Below w.heap.size w wr)) (fun i _ => l0_0.length - (intOf i).toNat)
 case atStart => exact ⟨0, by omega, rfl, ⟨fun j hj => absurd hj (Nat.not_lt_zero j)⟩, Bg3, HB⟩
 as_aux_lemma =>
  clear Bg3 HB
  obtain ⟨k, hk, rfl, HA, B3, HB⟩ := hrel
  by_cases hlt : k < l0_0.length
  ·
   have cl : decide ((k : Int) < (l0_0.length : Int)) = true := decide_eq_true (by omega)
   have ck0 : decide (0 ≤ (k : Int)) = true := decide_eq_true (by omega)
   obtain ⟨ad, eA, hx0, hx1, hx2⟩ := at_T56 HR0.out (k : Int) (by omega) (by omega)
   subst eA
   replace hx0 := (HB.out.cell (World.block_lt_of_cell? w _ hx0)).trans hx0
   replace hx1 := (HB.out.cell (World.block_lt_of_cell? w _ hx1)).trans hx1
   replace hx2 := (HB.out.cell (World.block_lt_of_cell? w _ hx2)).trans hx2
   simp only [Int.toNat_natCast] at hx0 hx1 hx2
   obtain ⟨s0, s1, s2, s3, s4⟩ := Sq.c5 B3
   obtain ⟨Of, hOf⟩ : ∃ a, a = (rd_T56 l0_0 (k : Int)).f0 := ⟨_, rfl⟩
   obtain ⟨Ds, hDs⟩ : ∃ a, a = (rd_T56 l0_0 (k : Int)).f1 := ⟨_, rfl⟩
   obtain ⟨Nm, hNm⟩ : ∃ a, a = (rd_T56 l0_0 (k : Int)).f2 := ⟨_, rfl⟩
   rw [← hOf] at hx0
   rw [← hDs] at hx1
   rw [← hNm] at hx2
   have HOf := Aside0.mk hOf
   have HNm := Aside0.mk hNm
   clear hOf hDs hNm
   go_upto_region 8 with ((with_reducible refine gate_dst (N := 9) rfl ?_); refine box_event ?_ (N := 9) ?_ (cs := #[.int .i64 0, .bool false, .string ⟨#[]⟩]) (t := 56) ?_ ?_; (· rfl); (· rfl); (· first | (go_simp; done) | (go_simp; rfl)); intro g9 hg w8 hbox hb; have Bg9 := Aside0.mk hbox; have GEg9 := Aside0.mk (show wr.heap.size ≤ g9 by first | omega | (have h_ := below_size HB.out; omega)); clear hbox hg; have HW8 := Aside0.mk hb; clear hb; obtain ⟨z0, z1, z2⟩ := Sq.c3 Bg9; have y0 := blk_frozen Bg9.out 0; have y1 := blk_frozen Bg9.out 1; have y2 := blk_frozen Bg9.out 2)
   have hne : g3 ≠ g9 := by have := blk_lt B3.out; have := GEg9.out; omega
   have GB9 : Aside0 (w.heap.size ≤ g9) := ⟨by have := HB.out.size; have := GEg9.out; omega⟩
   refine forget_wp (fun wc => Aside0 (wc.heap[g3]? = some (.cells #[.slice (some ad) l0_0.length c0_0, .slice A0_1 l0_1.length c0_1, .slice A0_2 l0_2.length c0_2, .slice A0_3 l0_3.length c0_3, .slice A0_4 l0_4.length c0_4] 31 (0, 0))) ∧ Aside0 (wc.heap[g9]? = some (.cells #[.int .i64 Of, .bool Ds, .string Nm] 56 (0, 0))) ∧ Aside0 (Below w.heap.size w wc)) ⟨⟨blk_far (blk_far (blk_far (blk_below B3.out HW8.out) hne _) hne _) hne _⟩, ⟨(blk_set (blk_set (blk_set Bg9.out 0 _) 1 _) 2 _).trans rfl⟩, ⟨below_set (below_set (below_set (below_step HB.out HW8.out) GB9.out) GB9.out) GB9.out⟩⟩ ?_
   clear Bg9 B3 HB HW8 GEg9 z0 z1 z2 y0 y1 y2 hx0 hx1 hx2 hne GB9 s0 s1 s2 s3 s4
   rintro w9 ⟨B3, B9, HB⟩
   obtain ⟨s0, s1, s2, s3, s4⟩ := Sq.c5 B3
   obtain ⟨z0, z1, z2⟩ := Sq.c3 B9
   by_cases c7 : Of < -2147483647
   ·
    have d_ : decide (Of < -2147483647) = true := decide_eq_true (by omega)
    go_wp2; go_ret; exact ⟨by rw [← HRES.out, rb_kind hlt (by unfold kokB; rw [← HOf.out, decide_eq_true (show Of ≤ -2147483648 by omega)]; rfl)]; rfl, HB.out⟩
   have dc7 : decide (Of < -2147483647) = false := decide_eq_false (by omega)
   by_cases c8 : 2147483647 < Of
   ·
    have d_ : decide (2147483647 < Of) = true := decide_eq_true (by omega)
    go_wp2; go_ret; exact ⟨by rw [← HRES.out, rb_kind hlt (by unfold kokB; rw [← HOf.out, decide_eq_true (show Of > 2147483647 from c8), Bool.not_true, Bool.and_false]; rfl)]; rfl, HB.out⟩
   have dc8 : decide (2147483647 < Of) = false := decide_eq_false (by omega)
   by_cases c9 : 255 < Nm.size
   ·
    have d_ : decide (255 < (Nm.size : Int)) = true := decide_eq_true (by omega)
    go_wp2; go_ret; exact ⟨by rw [← HRES.out, rb_long hlt (by rw [← HNm.out]; exact c9)]; rfl, HB.out⟩
   have dc9 : decide (255 < (Nm.size : Int)) = false := decide_eq_false (by omega)
   go_wp2
   go_loopw [10] (fun i wr => ∃ j : Nat, j ≤ Nm.size ∧ i = .int .i64 j ∧ Aside0 (∀ b ∈ Nm.data.toList.take j, b ≠ 0) ∧ Aside0 (wr.heap[g3]? = some (.cells #[.slice (some ad) l0_0.length c0_0, .slice A0_1 l0_1.length c0_1, .slice A0_2 l0_2.length c0_2, .slice A0_3 l0_3.length c0_3, .slice A0_4 l0_4.length c0_4] 31 (0, 0))) ∧ Aside0 (wr.heap[g9]? = some (.cells #[.int .i64 Of, .bool Ds, .string Nm] 56 (0, 0))) ∧ Aside0 (Below w.heap.size w wr)) (fun i _ => Nm.size - (intOf i).toNat)
   case atStart => exact ⟨0, by omega, rfl, ⟨fun b hb => by simp at hb⟩, B3, B9, HB⟩
   as_aux_lemma =>
    clear B3 B9 HB s0 s1 s2 s3 s4 z0 z1 z2
    obtain ⟨j, hj, rfl, HZ, B3, B9, HB⟩ := hrel
    obtain ⟨z0, z1, z2⟩ := Sq.c3 B9
    by_cases hjl : j < Nm.size
    ·
     have cl2 : decide ((j : Int) < (Nm.size : Int)) = true := decide_eq_true (by omega)
     have cj0 : decide (0 ≤ (j : Int)) = true := decide_eq_true (by omega)
     by_cases cz : Nm[j] = 0
     ·
      have dz : (((Nm[j].toNat : Nat) : Int) == 0) = true := by rw [cz]; rfl
      have HCZ := Aside0.mk (show (0 : UInt8) ∈ Nm.data.toList by rw [← cz]; exact Array.getElem_mem_toList hjl)
      clear cz
      go_wp2; go_ret; exact ⟨by rw [← HRES.out, rb_kind hlt (kok_zero HNm.out HCZ.out)]; rfl, HB.out⟩
     have dz : (((Nm[j].toNat : Nat) : Int) == 0) = false := beq_eq_false_iff_ne.2 (fun e => cz (UInt8.toNat_inj.1 (by have h2 : Nm[j].toNat = 0 := (by omega); exact h2)))
     have HCZ := Aside0.mk cz
     clear cz
     go_wp2
     go_roundw
     case rel => exact ⟨j + 1, by omega, by go_num, ⟨no_more HZ.out hjl HCZ.out⟩, B3, B9, HB⟩
     case measure => simp [intOf]; omega
    have hjn : Nm.size = j := by omega
    have cl2 : decide ((j : Int) < (Nm.size : Int)) = false := decide_eq_false (by omega)
    have HNZ := Aside0.mk (show hasZero Nm = false by exact no_zero (by have h := HZ.out; rw [List.take_of_length_le (by rw [Array.length_toList]; exact Nat.le_of_eq hjn)] at h; exact h))
    clear hjn HZ
    obtain ⟨s0, s1, s2, s3, s4⟩ := Sq.c5 B3
    have HKR := Aside0.mk (show kokB l0_0 l0_3 l0_4 k = markB l0_3 l0_4 k by unfold kokB; rw [← HOf.out, ← HNm.out, decide_eq_false (show ¬ Of ≤ -2147483648 by omega), decide_eq_false (show ¬ Of > 2147483647 by omega), HNZ.out]; rfl)
    clear HNZ HOf HNm
    by_cases cU : 0 < l0_4.length
    rotate_left
    ·
     have dU : decide (0 < (l0_4.length : Int)) = false := decide_eq_false (by omega)
     have HM := Aside0.mk (show markB l0_3 l0_4 k = true by unfold markB; rw [decide_eq_false (show ¬ (l0_4.length : Int) > 0 by omega)]; rfl)
     go_wp2
     go_roundw
     case rel => exact ⟨k + 1, by omega, by go_num, ⟨fun j hj => by rcases Nat.lt_succ_iff_lt_or_eq.1 hj with h | rfl; exact HA.out j h; exact HKR.out.trans HM.out⟩, B3, HB⟩
     case measure => simp [intOf]; omega
    have dU : decide (0 < (l0_4.length : Int)) = true := decide_eq_true (by omega)
    obtain ⟨ad4, e4, hx4⟩ := Kd.at_bool HR4.out (k : Int) (by omega) (by omega)
    replace hx4 := (HB.out.cell (World.block_lt_of_cell? w _ hx4)).trans hx4
    simp only [Int.toNat_natCast] at hx4
    have ck4 : decide ((k : Int) < (l0_4.length : Int)) = true := decide_eq_true (by omega)
    obtain ⟨uv, huv⟩ : ∃ x, x = rdOf false l0_4 (k : Int) := ⟨_, rfl⟩
    rw [← huv] at hx4
    have HUV := Aside0.mk huv
    clear huv
    cases uv
    ·
     have HM := Aside0.mk (show markB l0_3 l0_4 k = true by unfold markB; rw [← HUV.out, Bool.and_false]; rfl)
     go_wp2
     go_roundw
     case rel => exact ⟨k + 1, by omega, by go_num, ⟨fun j hj => by rcases Nat.lt_succ_iff_lt_or_eq.1 hj with h | rfl; exact HA.out j h; exact HKR.out.trans HM.out⟩, B3, HB⟩
     case measure => simp [intOf]; omega
    by_cases cS : l0_3.length = 0
    ·
     have dS : ((l0_3.length : Int) == 0) = true := beq_iff_eq.2 (by omega)
     have HM := Aside0.mk (show markB l0_3 l0_4 k = false by unfold markB; rw [← HUV.out, decide_eq_true (show (l0_4.length : Int) > 0 by omega), decide_eq_true (show (l0_3.length : Int) = 0 by omega)]; rfl)
     go_wp2; go_ret; exact ⟨by rw [← HRES.out, rb_kind hlt (HKR.out.trans HM.out)]; rfl, HB.out⟩
    have dS : ((l0_3.length : Int) == 0) = false := beq_eq_false_iff_ne.2 (by omega)
    obtain ⟨ad3, e3, hx3⟩ := Kd.at_bool HR3.out (k : Int) (by omega) (by omega)
    replace hx3 := (HB.out.cell (World.block_lt_of_cell? w _ hx3)).trans hx3
    simp only [Int.toNat_natCast] at hx3
    have ck3 : decide ((k : Int) < (l0_3.length : Int)) = true := decide_eq_true (by omega)
    obtain ⟨sv, hsv⟩ : ∃ x, x = rdOf false l0_3 (k : Int) := ⟨_, rfl⟩
    rw [← hsv] at hx3
    have HSV := Aside0.mk hsv
    clear hsv
    cases sv
    ·
     have HM := Aside0.mk (show markB l0_3 l0_4 k = false by unfold markB; rw [← HUV.out, ← HSV.out, decide_eq_true (show (l0_4.length : Int) > 0 by omega)]; simp)
     go_wp2; go_ret; exact ⟨by rw [← HRES.out, rb_kind hlt (HKR.out.trans HM.out)]; rfl, HB.out⟩
    have HM := Aside0.mk (show markB l0_3 l0_4 k = true by unfold markB; rw [← HUV.out, ← HSV.out, decide_eq_false (show ¬ (l0_3.length : Int) = 0 by omega)]; simp)
    go_wp2
    go_roundw
    case rel => exact ⟨k + 1, by omega, by go_num, ⟨fun j hj => by rcases Nat.lt_succ_iff_lt_or_eq.1 hj with h | rfl; exact HA.out j h; exact HKR.out.trans HM.out⟩, B3, HB⟩
    case measure => simp [intOf]; omega
  have hkn : k = l0_0.length := by omega
  subst hkn
  have cl : decide ((l0_0.length : Int) < (l0_0.length : Int)) = false := decide_eq_false (by omega)
  have HKA := Aside0.mk HA.out
  clear HA hk hlt
  obtain ⟨s0, s1, s2, s3, s4⟩ := Sq.c5 B3
  obtain ⟨nn, hnn⟩ : ∃ x, x = (nmSt (names l0_0)).1.length := ⟨_, rfl⟩
  have HNN := Aside0.mk hnn
  clear hnn
  go_upto_region 18 with (go_at_call 24; (with_reducible refine (rr_names _ _ l0_0 _ (Kd.C_below HR0.out HB.out) hcc0.out q0 q1).mono ?_); rintro e w2 ⟨A1_, c1_, v1_, rfl, hb⟩; have n0_ := Aside0.mk (blk_below B3.out hb); have n1_ := Aside0.mk (below_step HB.out hb); clear B3 HB; have B3 := n0_; have HB := n1_; clear n0_ n1_ hb; rw [← HNN.out])
  by_cases cN : 256 < nn
  ·
   have d_ : decide (256 < (nn : Int)) = true := decide_eq_true (by omega)
   go_wp2; go_ret; exact ⟨by rw [← HRES.out, rb_names (by rw [← HNN.out]; exact cN)]; rfl, HB.out⟩
  have dcN : decide (256 < (nn : Int)) = false := decide_eq_false (by omega)
  go_wp2
  go_loopw [13] (fun i wr => ∃ k : Nat, k ≤ l0_1.length ∧ i = .int .i64 k ∧ Aside0 (∀ j, j < k → jokB (l0_0.length : Int) a1_ l0_1 j = true) ∧ Aside0 (wr.heap[g3]? = some (.cells #[.slice A0_0 l0_0.length c0_0, .slice A0_1 l0_1.length c0_1, .slice A0_2 l0_2.length c0_2, .slice A0_3 l0_3.length c0_3, .slice A0_4 l0_4.length c0_4] 31 (0, 0))) ∧ Aside0 (Below w.heap.size w wr)) (fun i _ => l0_1.length - (intOf i).toNat)
  case atStart => exact ⟨0, Nat.zero_le _, rfl, ⟨fun j hj => absurd hj (Nat.not_lt_zero j)⟩, B3, HB⟩
  as_aux_lemma =>
   clear B3 HB s0 s1 s2 s3 s4
   obtain ⟨k, hk, rfl, HA, B2, HB⟩ := hrel
   by_cases hlt : k < l0_1.length
   ·
    have cl : decide ((k : Int) < (l0_1.length : Int)) = true := decide_eq_true (by omega)
    have ck0 : decide (0 ≤ (k : Int)) = true := decide_eq_true (by omega)
    obtain ⟨ad, eA, hx0, hx1⟩ := at_T54 HR1.out (k : Int) (by omega) (by omega)
    subst eA
    replace hx0 := (HB.out.cell (World.block_lt_of_cell? w _ hx0)).trans hx0
    replace hx1 := (HB.out.cell (World.block_lt_of_cell? w _ hx1)).trans hx1
    simp only [Int.toNat_natCast] at hx0 hx1
    obtain ⟨r0, r1, r2, r3, r4⟩ := Sq.c5 B2
    go_upto_region 24 with ((with_reducible refine gate_dst (N := 14) rfl ?_); refine box_event ?_ (N := 14) ?_ (cs := #[.int .i64 0, .int .i64 0]) (t := 54) ?_ ?_; (· rfl); (· rfl); (· first | (go_simp; done) | (go_simp; rfl)); intro g6 hg w8 hbox hb; have Bg6 := Aside0.mk hbox; have GEg6 := Aside0.mk (show wr.heap.size ≤ g6 by first | omega | (have h_ := below_size HB.out; omega)); clear hbox hg; have HW8 := Aside0.mk hb; clear hb; obtain ⟨z0, z1⟩ := Sq.c2 Bg6; have y0 := blk_frozen Bg6.out 0; have y1 := blk_frozen Bg6.out 1)
    have hne : g3 ≠ g6 := by have := blk_lt B2.out; have := GEg6.out; omega
    obtain ⟨At, hAt⟩ : ∃ a, a = (rd_T54 l0_1 (k : Int)).f0 := ⟨_, rfl⟩
    obtain ⟨Kd, hKd⟩ : ∃ a, a = (rd_T54 l0_1 (k : Int)).f1 := ⟨_, rfl⟩
    rw [← hAt, ← hKd]
    have GB6 : Aside0 (w.heap.size ≤ g6) := ⟨by have := HB.out.size; have := GEg6.out; omega⟩
    refine forget_wp (fun wc => Aside0 (wc.heap[g3]? = some (.cells #[.slice A0_0 l0_0.length c0_0, .slice (some ad) l0_1.length c0_1, .slice A0_2 l0_2.length c0_2, .slice A0_3 l0_3.length c0_3, .slice A0_4 l0_4.length c0_4] 31 (0, 0))) ∧ Aside0 (wc.heap[g6]? = some (.cells #[.int .i64 At, .int .i64 Kd] 54 (0, 0))) ∧ Aside0 (Below w.heap.size w wc)) ⟨⟨blk_far (blk_far (blk_below B2.out HW8.out) hne _) hne _⟩, ⟨(blk_set (blk_set Bg6.out 0 _) 1 _).trans rfl⟩, ⟨below_set (below_set (below_step HB.out HW8.out) GB6.out) GB6.out⟩⟩ ?_
    have HAt := Aside0.mk hAt
    have HKd := Aside0.mk hKd
    clear Bg6 B2 HB HW8 GEg6 z0 z1 y0 y1 hx0 hx1 hAt hKd hne GB6
    rintro w9 ⟨B2, B6, HB⟩
    obtain ⟨s0, s1⟩ := Sq.c2 B2
    obtain ⟨z0, z1⟩ := Sq.c2 B6
    by_cases c1 : 0 < (k : Int)
    rotate_left
    ·
     have d1 : decide (0 < (k : Int)) = false := decide_eq_false c1
     have d1n : decide (0 < k) = false := decide_eq_false (by omega)
     by_cases c3 : Kd < 0
     ·
      have d3 : decide (Kd < 0) = true := decide_eq_true c3
      have hjk : jokB (l0_0.length : Int) a1_ l0_1 k = false := by unfold jokB; simp only [d1, Bool.false_and, Bool.not_false, Bool.true_and]; simp [← HKd.out, d3]
      clear c3
      as_aux_lemma =>
       refine start_ (n := 32) (S := fun w' => w'.cell? ⟨g6, 0, none⟩ = some (.int .i64 At) ∧ w'.cell? ⟨g6, 1, none⟩ = some (.int .i64 Kd) ∧ w'.cell? ⟨g3, 0, none⟩ = some (.slice A0_0 l0_0.length c0_0) ∧ w'.cell? ⟨g3, 1, none⟩ = some (.slice (some ad) l0_1.length c0_1)) (ds := []) (Sq.bm 32 0) (by kernel_rfl) rfl (by kernel_rfl) ⟨z0, z1, s0, s1⟩ (fun hHeld => ?_); refine with_tabW longcaseref06_Right.tab24 longcaseref06_Right.bits24 (fun HT_ HW_ => ?_)
       replace B2 := Aside0.mk (blk_drew B2.out)
       replace B6 := Aside0.mk (blk_drew B6.out)
       replace HB := Aside0.mk (below_drew1 HB.out)
       clear z0 z1 s0 s1
       generalize w9.drew = w10 at B2 B6 HB hHeld ⊢
       refine Sq.pv 0 145 1 HT_ ?_
       refine Sq.pv 1 146 3 HT_ ?_
       refine Sq.pv 2 147 7 HT_ ?_
       refine Sq.nv 3 148 15 HT_ ?_
       refine Sq.nv 4 149 31 HT_ ?_
       refine Sq.nv 5 150 63 HT_ ?_
       refine Sq.nv 6 151 127 HT_ ?_
       refine Sq.nv 7 152 255 HT_ ?_
       refine Sq.nv 8 153 511 HT_ ?_
       refine Sq.nv 9 154 1023 HT_ ?_
       refine Sq.nv 10 155 2047 HT_ ?_
       refine Sq.nv 11 156 4095 HT_ ?_
       refine Sq.nv 12 157 8191 HT_ ?_
       refine Sq.pv 13 158 16383 HT_ ?_
       refine Sq.pv 14 159 32767 HT_ ?_
       refine Sq.pv 15 160 65535 HT_ ?_
       refine Sq.tv 16 161 131071 HT_ HW_ hHeld ?_
       refine Sq.pv 17 162 262143 HT_ ?_
       refine Sq.pv 18 163 524287 HT_ ?_
       refine Sq.pv 19 164 1048575 HT_ ?_
       refine Sq.nv 20 165 2097151 HT_ ?_
       refine Sq.nv 21 166 4194303 HT_ ?_
       refine Sq.nv 22 167 8388607 HT_ ?_
       refine Sq.nv 23 168 16777215 HT_ ?_
       refine Sq.pv 24 169 33554431 HT_ ?_
       refine Sq.pv 25 170 67108863 HT_ ?_
       refine Sq.nv 26 171 134217727 HT_ ?_
       refine Sq.nv 27 172 268435455 HT_ ?_
       refine Sq.nv 28 173 536870911 HT_ ?_
       refine Sq.nv 29 174 1073741823 HT_ ?_
       refine Sq.nv 30 175 2147483647 HT_ ?_
       refine Sq.pv 31 176 4294967295 HT_ ?_
       refine done_ (done_of HT_.out (by kernel_rfl)) ?_
       go_wp2
       go_ret
       exact ⟨by rw [← HRES.out, rb_jump hlt hjk]; rfl, (by first | exact HB.out | exact pw_below_drewN HB.out _)⟩
     have d3 : decide (Kd < 0) = false := decide_eq_false c3
     by_cases c4 : (l0_0.length : Int) ≤ Kd
     ·
      have d4 : decide ((l0_0.length : Int) ≤ Kd) = true := decide_eq_true c4
      have hjk : jokB (l0_0.length : Int) a1_ l0_1 k = false := by unfold jokB; simp only [d1, Bool.false_and, Bool.not_false, Bool.true_and]; simp [← HKd.out, d3, d4]
      clear c3 c4
      as_aux_lemma =>
       refine start_ (n := 32) (S := fun w' => w'.cell? ⟨g6, 0, none⟩ = some (.int .i64 At) ∧ w'.cell? ⟨g6, 1, none⟩ = some (.int .i64 Kd) ∧ w'.cell? ⟨g3, 0, none⟩ = some (.slice A0_0 l0_0.length c0_0) ∧ w'.cell? ⟨g3, 1, none⟩ = some (.slice (some ad) l0_1.length c0_1)) (ds := []) (Sq.bm 32 0) (by kernel_rfl) rfl (by kernel_rfl) ⟨z0, z1, s0, s1⟩ (fun hHeld => ?_); refine with_tabW longcaseref06_Right.tab24 longcaseref06_Right.bits24 (fun HT_ HW_ => ?_)
       replace B2 := Aside0.mk (blk_drew B2.out)
       replace B6 := Aside0.mk (blk_drew B6.out)
       replace HB := Aside0.mk (below_drew1 HB.out)
       clear z0 z1 s0 s1
       generalize w9.drew = w10 at B2 B6 HB hHeld ⊢
       refine Sq.pv 0 145 1 HT_ ?_
       refine Sq.pv 1 146 3 HT_ ?_
       refine Sq.pv 2 147 7 HT_ ?_
       refine Sq.nv 3 148 15 HT_ ?_
       refine Sq.nv 4 149 31 HT_ ?_
       refine Sq.nv 5 150 63 HT_ ?_
       refine Sq.nv 6 151 127 HT_ ?_
       refine Sq.nv 7 152 255 HT_ ?_
       refine Sq.nv 8 153 511 HT_ ?_
       refine Sq.nv 9 154 1023 HT_ ?_
       refine Sq.nv 10 155 2047 HT_ ?_
       refine Sq.nv 11 156 4095 HT_ ?_
       refine Sq.nv 12 157 8191 HT_ ?_
       refine Sq.pv 13 158 16383 HT_ ?_
       refine Sq.pv 14 159 32767 HT_ ?_
       refine Sq.pv 15 160 65535 HT_ ?_
       refine Sq.tv 16 161 131071 HT_ HW_ hHeld ?_
       refine Sq.pv 17 162 262143 HT_ ?_
       refine Sq.pv 18 163 524287 HT_ ?_
       refine Sq.pv 19 164 1048575 HT_ ?_
       refine Sq.pv 20 165 2097151 HT_ ?_
       refine Sq.pv 22 167 6291455 HT_ ?_
       refine Sq.tv 21 166 8388607 HT_ HW_ hHeld ?_
       refine Sq.pv 23 168 16777215 HT_ ?_
       refine Sq.pv 24 169 33554431 HT_ ?_
       refine Sq.pv 25 170 67108863 HT_ ?_
       refine Sq.nv 26 171 134217727 HT_ ?_
       refine Sq.nv 27 172 268435455 HT_ ?_
       refine Sq.nv 28 173 536870911 HT_ ?_
       refine Sq.nv 29 174 1073741823 HT_ ?_
       refine Sq.nv 30 175 2147483647 HT_ ?_
       refine Sq.pv 31 176 4294967295 HT_ ?_
       refine done_ (done_of HT_.out (by kernel_rfl)) ?_
       go_wp2
       go_ret
       exact ⟨by rw [← HRES.out, rb_jump hlt hjk]; rfl, (by first | exact HB.out | exact pw_below_drewN HB.out _)⟩
     have d4 : decide ((l0_0.length : Int) ≤ Kd) = false := decide_eq_false c4
     obtain ⟨fv, hfv⟩ : ∃ x, x = fitsB At a1_ := ⟨_, rfl⟩
     have c5q := hfv.symm
     rw [HA1.out] at c5q
     have c5 := hfv.symm
     clear hfv
     cases fv
     ·
      have hjk : jokB (l0_0.length : Int) a1_ l0_1 k = false := by unfold jokB; simp only [d1, Bool.false_and, Bool.not_false, Bool.true_and]; simp [← HKd.out, d3, d4, ← HAt.out, c5]
      clear c3 c4
      as_aux_lemma =>
       refine start_ (n := 32) (S := fun w' => w'.cell? ⟨g6, 0, none⟩ = some (.int .i64 At) ∧ w'.cell? ⟨g6, 1, none⟩ = some (.int .i64 Kd) ∧ w'.cell? ⟨g3, 0, none⟩ = some (.slice A0_0 l0_0.length c0_0) ∧ w'.cell? ⟨g3, 1, none⟩ = some (.slice (some ad) l0_1.length c0_1)) (ds := []) (Sq.bm 32 0) (by kernel_rfl) rfl (by kernel_rfl) ⟨z0, z1, s0, s1⟩ (fun hHeld => ?_); refine with_tabW longcaseref06_Right.tab24 longcaseref06_Right.bits24 (fun HT_ HW_ => ?_)
       replace B2 := Aside0.mk (blk_drew B2.out)
       replace B6 := Aside0.mk (blk_drew B6.out)
       replace HB := Aside0.mk (below_drew1 HB.out)
       clear z0 z1 s0 s1
       generalize w9.drew = w10 at B2 B6 HB hHeld ⊢
       refine Sq.pv 0 145 1 HT_ ?_
       refine Sq.pv 1 146 3 HT_ ?_
       refine Sq.pv 2 147 7 HT_ ?_
       refine Sq.nv 3 148 15 HT_ ?_
       refine Sq.nv 4 149 31 HT_ ?_
       refine Sq.nv 5 150 63 HT_ ?_
       refine Sq.nv 6 151 127 HT_ ?_
       refine Sq.nv 7 152 255 HT_ ?_
       refine Sq.nv 8 153 511 HT_ ?_
       refine Sq.nv 9 154 1023 HT_ ?_
       refine Sq.nv 10 155 2047 HT_ ?_
       refine Sq.nv 11 156 4095 HT_ ?_
       refine Sq.nv 12 157 8191 HT_ ?_
       refine Sq.pv 13 158 16383 HT_ ?_
       refine Sq.pv 14 159 32767 HT_ ?_
       refine Sq.pv 15 160 65535 HT_ ?_
       refine Sq.tv 16 161 131071 HT_ HW_ hHeld ?_
       refine Sq.pv 17 162 262143 HT_ ?_
       refine Sq.pv 18 163 524287 HT_ ?_
       refine Sq.pv 19 164 1048575 HT_ ?_
       refine Sq.pv 20 165 2097151 HT_ ?_
       refine Sq.pv 22 167 6291455 HT_ ?_
       refine Sq.tv 21 166 8388607 HT_ HW_ hHeld ?_
       refine Sq.pv 23 168 16777215 HT_ ?_
       refine Sq.pv 24 169 33554431 HT_ ?_
       refine Sq.pv 25 170 67108863 HT_ ?_
       refine Sq.pv 26 171 134217727 HT_ ?_
       refine Sq.pv 28 173 402653183 HT_ ?_
       refine Sq.tv 27 172 536870911 HT_ HW_ hHeld ?_
       refine one_ (i := 29) (N := some 174) (bm 32 1073741823) rfl rfl (one_of HT_.out (by kernel_rfl)) (by decide) (fun K hK => ?_)
       refine goes_ Try.func25 (by kernel_rfl) rfl #[.int .i64 At, .int .i64 a1] (by rfl) rfl rfl (by (try simp only [List.map_toArray, List.map_cons, List.map_nil]); first | done | rfl) ?_
       refine (rr_fits At a1 (by rw [← HA1.out]; exact H48.out) w10 0).mono ?_
       rintro e w' ⟨rfl, ⟨nd, rfl⟩⟩
       rw [c5q]
       refine ⟨_, rfl, ?_⟩
       refine hK.out _ _ hHeld (fun hHeld => ?_)
       clear hK K
       refine norm_ (a' := ?_) ?_ ?_
       rotate_left
       ·
        show Act.put _ (some 174) _ = _
        simp only [Act.put, List.setIfInBounds_toArray, List.set_cons_zero, List.set_cons_succ, i64_w, i32_w]
        rfl
       refine Sq.pv 30 175 2147483647 HT_ ?_
       refine Sq.pv 31 176 4294967295 HT_ ?_
       refine done_ (done_of HT_.out (by kernel_rfl)) ?_
       go_wp2
       go_ret
       exact ⟨by rw [← HRES.out, rb_jump hlt hjk]; rfl, (by first | exact HB.out | exact pw_below_drewN HB.out _)⟩
     have hjk : jokB (l0_0.length : Int) a1_ l0_1 k = true := by unfold jokB; simp only [d1, Bool.false_and, Bool.not_false, Bool.true_and]; simp [← HKd.out, d3, d4, ← HAt.out, c5]
     clear c3 c4
     as_aux_lemma =>
      refine start_ (n := 32) (S := fun w' => w'.cell? ⟨g6, 0, none⟩ = some (.int .i64 At) ∧ w'.cell? ⟨g6, 1, none⟩ = some (.int .i64 Kd) ∧ w'.cell? ⟨g3, 0, none⟩ = some (.slice A0_0 l0_0.length c0_0) ∧ w'.cell? ⟨g3, 1, none⟩ = some (.slice (some ad) l0_1.length c0_1)) (ds := []) (Sq.bm 32 0) (by kernel_rfl) rfl (by kernel_rfl) ⟨z0, z1, s0, s1⟩ (fun hHeld => ?_); refine with_tabW longcaseref06_Right.tab24 longcaseref06_Right.bits24 (fun HT_ HW_ => ?_)
      replace B2 := Aside0.mk (blk_drew B2.out)
      replace B6 := Aside0.mk (blk_drew B6.out)
      replace HB := Aside0.mk (below_drew1 HB.out)
      clear z0 z1 s0 s1
      generalize w9.drew = w10 at B2 B6 HB hHeld ⊢
      refine Sq.pv 0 145 1 HT_ ?_
      refine Sq.pv 1 146 3 HT_ ?_
      refine Sq.pv 2 147 7 HT_ ?_
      refine Sq.nv 3 148 15 HT_ ?_
      refine Sq.nv 4 149 31 HT_ ?_
      refine Sq.nv 5 150 63 HT_ ?_
      refine Sq.nv 6 151 127 HT_ ?_
      refine Sq.nv 7 152 255 HT_ ?_
      refine Sq.nv 8 153 511 HT_ ?_
      refine Sq.nv 9 154 1023 HT_ ?_
      refine Sq.nv 10 155 2047 HT_ ?_
      refine Sq.nv 11 156 4095 HT_ ?_
      refine Sq.nv 12 157 8191 HT_ ?_
      refine Sq.pv 13 158 16383 HT_ ?_
      refine Sq.pv 14 159 32767 HT_ ?_
      refine Sq.pv 15 160 65535 HT_ ?_
      refine Sq.tv 16 161 131071 HT_ HW_ hHeld ?_
      refine Sq.pv 17 162 262143 HT_ ?_
      refine Sq.pv 18 163 524287 HT_ ?_
      refine Sq.pv 19 164 1048575 HT_ ?_
      refine Sq.pv 20 165 2097151 HT_ ?_
      refine Sq.pv 22 167 6291455 HT_ ?_
      refine Sq.tv 21 166 8388607 HT_ HW_ hHeld ?_
      refine Sq.pv 23 168 16777215 HT_ ?_
      refine Sq.pv 24 169 33554431 HT_ ?_
      refine Sq.pv 25 170 67108863 HT_ ?_
      refine Sq.pv 26 171 134217727 HT_ ?_
      refine Sq.pv 28 173 402653183 HT_ ?_
      refine Sq.tv 27 172 536870911 HT_ HW_ hHeld ?_
      refine one_ (i := 29) (N := some 174) (bm 32 1073741823) rfl rfl (one_of HT_.out (by kernel_rfl)) (by decide) (fun K hK => ?_)
      refine goes_ Try.func25 (by kernel_rfl) rfl #[.int .i64 At, .int .i64 a1] (by rfl) rfl rfl (by (try simp only [List.map_toArray, List.map_cons, List.map_nil]); first | done | rfl) ?_
      refine (rr_fits At a1 (by rw [← HA1.out]; exact H48.out) w10 0).mono ?_
      rintro e w' ⟨rfl, ⟨nd, rfl⟩⟩
      rw [c5q]
      refine ⟨_, rfl, ?_⟩
      refine hK.out _ _ hHeld (fun hHeld => ?_)
      clear hK K
      refine norm_ (a' := ?_) ?_ ?_
      rotate_left
      ·
       show Act.put _ (some 174) _ = _
       simp only [Act.put, List.setIfInBounds_toArray, List.set_cons_zero, List.set_cons_succ, i64_w, i32_w]
       rfl
      refine Sq.pv 30 175 2147483647 HT_ ?_
      refine Sq.pv 31 176 4294967295 HT_ ?_
      refine done_ (done_of HT_.out (by kernel_rfl)) ?_
      go_wp2
      go_roundw
      case rel => exact ⟨k + 1, by omega, by go_num, ⟨fun j hj => by rcases Nat.lt_succ_iff_lt_or_eq.1 hj with h | rfl; exact HA.out j h; exact hjk⟩, B2, ⟨(by first | exact HB.out | exact pw_below_drewN HB.out _)⟩⟩
      case measure => simp [intOf]; omega
    have d1 : decide (0 < (k : Int)) = true := decide_eq_true c1
    have d1n : decide (0 < k) = true := decide_eq_true (by omega)
    have hw : IntKind.i64.wrap ((k : Int) - 1) = (k : Int) - 1 := by rw [IntKind.wrap_i64]; omega
    have e0 : (0 ≤ IntKind.i64.wrap ((k : Int) - 1)) = True := eq_true (by rw [hw]; omega)
    have e1 : (IntKind.i64.wrap ((k : Int) - 1) < (l0_1.length : Int)) = True := eq_true (by rw [hw]; omega)
    obtain ⟨ad2, eA2, hp0, hp1⟩ := at_T54 HR1.out (IntKind.i64.wrap ((k : Int) - 1)) (by rw [hw]; omega) (by rw [hw]; omega)
    cases eA2
    replace hp0 := (HB.out.cell (World.block_lt_of_cell? w _ hp0)).trans hp0
    clear hp1
    obtain ⟨Pv, hPv⟩ : ∃ a, a = (rd_T54 l0_1 (IntKind.i64.wrap ((k : Int) - 1))).f0 := ⟨_, rfl⟩
    rw [← hPv] at hp0
    have HPv := Aside0.mk (show (rd_T54 l0_1 ((k : Int) - 1)).f0 = Pv by rw [hPv, hw])
    clear hPv hw
    by_cases c2 : At ≤ Pv
    ·
     have d2 : decide (At ≤ Pv) = true := decide_eq_true c2
     have hjk : jokB (l0_0.length : Int) a1_ l0_1 k = false := by unfold jokB; simp only [d1, ← HAt.out, HPv.out, d2, Bool.and_self, Bool.not_true, Bool.false_and]
     clear c1 c2
     as_aux_lemma =>
      have e0w := e0
      have e1w := e1
      rw [i64_w] at e0w e1w
      refine start_ (n := 32) (S := fun w' => w'.cell? ⟨g6, 0, none⟩ = some (.int .i64 At) ∧ w'.cell? ⟨g6, 1, none⟩ = some (.int .i64 Kd) ∧ w'.cell? ⟨g3, 0, none⟩ = some (.slice A0_0 l0_0.length c0_0) ∧ w'.cell? ⟨g3, 1, none⟩ = some (.slice (some ad) l0_1.length c0_1) ∧ w'.cell? (ad.add ((wrap64 ((k : Int) - 1)).toNat * 2)) = some (.int .i64 Pv)) (ds := []) (Sq.bm 32 0) (by kernel_rfl) rfl (by kernel_rfl) ⟨z0, z1, s0, s1, (by rw [← i64_w]; exact hp0)⟩ (fun hHeld => ?_); refine with_tabW longcaseref06_Right.tab24 longcaseref06_Right.bits24 (fun HT_ HW_ => ?_)
      replace B2 := Aside0.mk (blk_drew B2.out)
      replace B6 := Aside0.mk (blk_drew B6.out)
      replace HB := Aside0.mk (below_drew1 HB.out)
      clear z0 z1 s0 s1 hp0 e0 e1
      generalize w9.drew = w10 at B2 B6 HB hHeld ⊢
      refine Sq.pv 0 145 1 HT_ ?_
      refine Sq.pv 1 146 3 HT_ ?_
      refine Sq.pv 2 147 7 HT_ ?_
      refine Sq.pv 3 148 15 HT_ ?_
      refine Sq.pv 5 150 47 HT_ ?_
      refine Sq.pv 7 152 175 HT_ ?_
      refine Sq.pv 8 153 431 HT_ ?_
      refine Sq.tv 4 149 447 HT_ HW_ hHeld ?_
      refine Sq.tv 6 151 511 HT_ HW_ hHeld ?_
      refine Sq.pv 9 154 1023 HT_ ?_
      refine Sq.pv 10 155 2047 HT_ ?_
      refine Sq.tv 11 156 4095 HT_ HW_ hHeld ?_
      refine Sq.pv 12 157 8191 HT_ ?_
      refine Sq.pv 13 158 16383 HT_ ?_
      refine Sq.pv 14 159 32767 HT_ ?_
      refine Sq.nv 15 160 65535 HT_ ?_
      refine Sq.nv 16 161 131071 HT_ ?_
      refine Sq.nv 17 162 262143 HT_ ?_
      refine Sq.pv 18 163 524287 HT_ ?_
      refine Sq.pv 19 164 1048575 HT_ ?_
      refine Sq.nv 20 165 2097151 HT_ ?_
      refine Sq.nv 21 166 4194303 HT_ ?_
      refine Sq.nv 22 167 8388607 HT_ ?_
      refine Sq.nv 23 168 16777215 HT_ ?_
      refine Sq.pv 24 169 33554431 HT_ ?_
      refine Sq.pv 25 170 67108863 HT_ ?_
      refine Sq.nv 26 171 134217727 HT_ ?_
      refine Sq.nv 27 172 268435455 HT_ ?_
      refine Sq.nv 28 173 536870911 HT_ ?_
      refine Sq.nv 29 174 1073741823 HT_ ?_
      refine Sq.nv 30 175 2147483647 HT_ ?_
      refine Sq.pv 31 176 4294967295 HT_ ?_
      refine done_ (done_of HT_.out (by kernel_rfl)) ?_
      go_wp2
      go_ret
      exact ⟨by rw [← HRES.out, rb_jump hlt hjk]; rfl, (by first | exact HB.out | exact pw_below_drewN HB.out _)⟩
    have d2 : decide (At ≤ Pv) = false := decide_eq_false c2
    by_cases c3 : Kd < 0
    ·
     have d3 : decide (Kd < 0) = true := decide_eq_true c3
     have hjk : jokB (l0_0.length : Int) a1_ l0_1 k = false := by unfold jokB; simp only [d1, HPv.out, ← HAt.out, d2, Bool.and_false, Bool.false_and, Bool.not_false, Bool.true_and, Bool.and_self]; simp [← HKd.out, d3]
     clear c3
     as_aux_lemma =>
      have e0w := e0
      have e1w := e1
      rw [i64_w] at e0w e1w
      refine start_ (n := 32) (S := fun w' => w'.cell? ⟨g6, 0, none⟩ = some (.int .i64 At) ∧ w'.cell? ⟨g6, 1, none⟩ = some (.int .i64 Kd) ∧ w'.cell? ⟨g3, 0, none⟩ = some (.slice A0_0 l0_0.length c0_0) ∧ w'.cell? ⟨g3, 1, none⟩ = some (.slice (some ad) l0_1.length c0_1) ∧ w'.cell? (ad.add ((wrap64 ((k : Int) - 1)).toNat * 2)) = some (.int .i64 Pv)) (ds := []) (Sq.bm 32 0) (by kernel_rfl) rfl (by kernel_rfl) ⟨z0, z1, s0, s1, (by rw [← i64_w]; exact hp0)⟩ (fun hHeld => ?_); refine with_tabW longcaseref06_Right.tab24 longcaseref06_Right.bits24 (fun HT_ HW_ => ?_)
      replace B2 := Aside0.mk (blk_drew B2.out)
      replace B6 := Aside0.mk (blk_drew B6.out)
      replace HB := Aside0.mk (below_drew1 HB.out)
      clear z0 z1 s0 s1 hp0 e0 e1
      generalize w9.drew = w10 at B2 B6 HB hHeld ⊢
      refine Sq.pv 0 145 1 HT_ ?_
      refine Sq.pv 1 146 3 HT_ ?_
      refine Sq.pv 2 147 7 HT_ ?_
      refine Sq.pv 3 148 15 HT_ ?_
      refine Sq.pv 5 150 47 HT_ ?_
      refine Sq.pv 7 152 175 HT_ ?_
      refine Sq.pv 8 153 431 HT_ ?_
      refine Sq.tv 4 149 447 HT_ HW_ hHeld ?_
      refine Sq.tv 6 151 511 HT_ HW_ hHeld ?_
      refine Sq.pv 9 154 1023 HT_ ?_
      refine Sq.pv 10 155 2047 HT_ ?_
      refine Sq.tv 11 156 4095 HT_ HW_ hHeld ?_
      refine Sq.pv 12 157 8191 HT_ ?_
      refine Sq.pv 13 158 16383 HT_ ?_
      refine Sq.pv 14 159 32767 HT_ ?_
      refine Sq.pv 15 160 65535 HT_ ?_
      refine Sq.tv 16 161 131071 HT_ HW_ hHeld ?_
      refine Sq.pv 17 162 262143 HT_ ?_
      refine Sq.pv 18 163 524287 HT_ ?_
      refine Sq.pv 19 164 1048575 HT_ ?_
      refine Sq.nv 20 165 2097151 HT_ ?_
      refine Sq.nv 21 166 4194303 HT_ ?_
      refine Sq.nv 22 167 8388607 HT_ ?_
      refine Sq.nv 23 168 16777215 HT_ ?_
      refine Sq.pv 24 169 33554431 HT_ ?_
      refine Sq.pv 25 170 67108863 HT_ ?_
      refine Sq.nv 26 171 134217727 HT_ ?_
      refine Sq.nv 27 172 268435455 HT_ ?_
      refine Sq.nv 28 173 536870911 HT_ ?_
      refine Sq.nv 29 174 1073741823 HT_ ?_
      refine Sq.nv 30 175 2147483647 HT_ ?_
      refine Sq.pv 31 176 4294967295 HT_ ?_
      refine done_ (done_of HT_.out (by kernel_rfl)) ?_
      go_wp2
      go_ret
      exact ⟨by rw [← HRES.out, rb_jump hlt hjk]; rfl, (by first | exact HB.out | exact pw_below_drewN HB.out _)⟩
    have d3 : decide (Kd < 0) = false := decide_eq_false c3
    by_cases c4 : (l0_0.length : Int) ≤ Kd
    ·
     have d4 : decide ((l0_0.length : Int) ≤ Kd) = true := decide_eq_true c4
     have hjk : jokB (l0_0.length : Int) a1_ l0_1 k = false := by unfold jokB; simp only [d1, HPv.out, ← HAt.out, d2, Bool.and_false, Bool.false_and, Bool.not_false, Bool.true_and, Bool.and_self]; simp [← HKd.out, d3, d4]
     clear c3 c4
     as_aux_lemma =>
      have e0w := e0
      have e1w := e1
      rw [i64_w] at e0w e1w
      refine start_ (n := 32) (S := fun w' => w'.cell? ⟨g6, 0, none⟩ = some (.int .i64 At) ∧ w'.cell? ⟨g6, 1, none⟩ = some (.int .i64 Kd) ∧ w'.cell? ⟨g3, 0, none⟩ = some (.slice A0_0 l0_0.length c0_0) ∧ w'.cell? ⟨g3, 1, none⟩ = some (.slice (some ad) l0_1.length c0_1) ∧ w'.cell? (ad.add ((wrap64 ((k : Int) - 1)).toNat * 2)) = some (.int .i64 Pv)) (ds := []) (Sq.bm 32 0) (by kernel_rfl) rfl (by kernel_rfl) ⟨z0, z1, s0, s1, (by rw [← i64_w]; exact hp0)⟩ (fun hHeld => ?_); refine with_tabW longcaseref06_Right.tab24 longcaseref06_Right.bits24 (fun HT_ HW_ => ?_)
      replace B2 := Aside0.mk (blk_drew B2.out)
      replace B6 := Aside0.mk (blk_drew B6.out)
      replace HB := Aside0.mk (below_drew1 HB.out)
      clear z0 z1 s0 s1 hp0 e0 e1
      generalize w9.drew = w10 at B2 B6 HB hHeld ⊢
      refine Sq.pv 0 145 1 HT_ ?_
      refine Sq.pv 1 146 3 HT_ ?_
      refine Sq.pv 2 147 7 HT_ ?_
      refine Sq.pv 3 148 15 HT_ ?_
      refine Sq.pv 5 150 47 HT_ ?_
      refine Sq.pv 7 152 175 HT_ ?_
      refine Sq.pv 8 153 431 HT_ ?_
      refine Sq.tv 4 149 447 HT_ HW_ hHeld ?_
      refine Sq.tv 6 151 511 HT_ HW_ hHeld ?_
      refine Sq.pv 9 154 1023 HT_ ?_
      refine Sq.pv 10 155 2047 HT_ ?_
      refine Sq.tv 11 156 4095 HT_ HW_ hHeld ?_
      refine Sq.pv 12 157 8191 HT_ ?_
      refine Sq.pv 13 158 16383 HT_ ?_
      refine Sq.pv 14 159 32767 HT_ ?_
      refine Sq.pv 15 160 65535 HT_ ?_
      refine Sq.tv 16 161 131071 HT_ HW_ hHeld ?_
      refine Sq.pv 17 162 262143 HT_ ?_
      refine Sq.pv 18 163 524287 HT_ ?_
      refine Sq.pv 19 164 1048575 HT_ ?_
      refine Sq.pv 20 165 2097151 HT_ ?_
      refine Sq.pv 22 167 6291455 HT_ ?_
      refine Sq.tv 21 166 8388607 HT_ HW_ hHeld ?_
      refine Sq.pv 23 168 16777215 HT_ ?_
      refine Sq.pv 24 169 33554431 HT_ ?_
      refine Sq.pv 25 170 67108863 HT_ ?_
      refine Sq.nv 26 171 134217727 HT_ ?_
      refine Sq.nv 27 172 268435455 HT_ ?_
      refine Sq.nv 28 173 536870911 HT_ ?_
      refine Sq.nv 29 174 1073741823 HT_ ?_
      refine Sq.nv 30 175 2147483647 HT_ ?_
      refine Sq.pv 31 176 4294967295 HT_ ?_
      refine done_ (done_of HT_.out (by kernel_rfl)) ?_
      go_wp2
      go_ret
      exact ⟨by rw [← HRES.out, rb_jump hlt hjk]; rfl, (by first | exact HB.out | exact pw_below_drewN HB.out _)⟩
    have d4 : decide ((l0_0.length : Int) ≤ Kd) = false := decide_eq_false c4
    obtain ⟨fv, hfv⟩ : ∃ x, x = fitsB At a1_ := ⟨_, rfl⟩
    have c5q := hfv.symm
    rw [HA1.out] at c5q
    have c5 := hfv.symm
    clear hfv
    cases fv
    ·
     have hjk : jokB (l0_0.length : Int) a1_ l0_1 k = false := by unfold jokB; simp only [d1, HPv.out, ← HAt.out, d2, Bool.and_false, Bool.false_and, Bool.not_false, Bool.true_and, Bool.and_self]; simp [← HKd.out, d3, d4, ← HAt.out, c5]
     clear c3 c4
     as_aux_lemma =>
      have e0w := e0
      have e1w := e1
      rw [i64_w] at e0w e1w
      refine start_ (n := 32) (S := fun w' => w'.cell? ⟨g6, 0, none⟩ = some (.int .i64 At) ∧ w'.cell? ⟨g6, 1, none⟩ = some (.int .i64 Kd) ∧ w'.cell? ⟨g3, 0, none⟩ = some (.slice A0_0 l0_0.length c0_0) ∧ w'.cell? ⟨g3, 1, none⟩ = some (.slice (some ad) l0_1.length c0_1) ∧ w'.cell? (ad.add ((wrap64 ((k : Int) - 1)).toNat * 2)) = some (.int .i64 Pv)) (ds := []) (Sq.bm 32 0) (by kernel_rfl) rfl (by kernel_rfl) ⟨z0, z1, s0, s1, (by rw [← i64_w]; exact hp0)⟩ (fun hHeld => ?_); refine with_tabW longcaseref06_Right.tab24 longcaseref06_Right.bits24 (fun HT_ HW_ => ?_)
      replace B2 := Aside0.mk (blk_drew B2.out)
      replace B6 := Aside0.mk (blk_drew B6.out)
      replace HB := Aside0.mk (below_drew1 HB.out)
      clear z0 z1 s0 s1 hp0 e0 e1
      generalize w9.drew = w10 at B2 B6 HB hHeld ⊢
      refine Sq.pv 0 145 1 HT_ ?_
      refine Sq.pv 1 146 3 HT_ ?_
      refine Sq.pv 2 147 7 HT_ ?_
      refine Sq.pv 3 148 15 HT_ ?_
      refine Sq.pv 5 150 47 HT_ ?_
      refine Sq.pv 7 152 175 HT_ ?_
      refine Sq.pv 8 153 431 HT_ ?_
      refine Sq.tv 4 149 447 HT_ HW_ hHeld ?_
      refine Sq.tv 6 151 511 HT_ HW_ hHeld ?_
      refine Sq.pv 9 154 1023 HT_ ?_
      refine Sq.pv 10 155 2047 HT_ ?_
      refine Sq.tv 11 156 4095 HT_ HW_ hHeld ?_
      refine Sq.pv 12 157 8191 HT_ ?_
      refine Sq.pv 13 158 16383 HT_ ?_
      refine Sq.pv 14 159 32767 HT_ ?_
      refine Sq.pv 15 160 65535 HT_ ?_
      refine Sq.tv 16 161 131071 HT_ HW_ hHeld ?_
      refine Sq.pv 17 162 262143 HT_ ?_
      refine Sq.pv 18 163 524287 HT_ ?_
      refine Sq.pv 19 164 1048575 HT_ ?_
      refine Sq.pv 20 165 2097151 HT_ ?_
      refine Sq.pv 22 167 6291455 HT_ ?_
      refine Sq.tv 21 166 8388607 HT_ HW_ hHeld ?_
      refine Sq.pv 23 168 16777215 HT_ ?_
      refine Sq.pv 24 169 33554431 HT_ ?_
      refine Sq.pv 25 170 67108863 HT_ ?_
      refine Sq.pv 26 171 134217727 HT_ ?_
      refine Sq.pv 28 173 402653183 HT_ ?_
      refine Sq.tv 27 172 536870911 HT_ HW_ hHeld ?_
      refine one_ (i := 29) (N := some 174) (bm 32 1073741823) rfl rfl (one_of HT_.out (by kernel_rfl)) (by decide) (fun K hK => ?_)
      refine goes_ Try.func25 (by kernel_rfl) rfl #[.int .i64 At, .int .i64 a1] (by rfl) rfl rfl (by (try simp only [List.map_toArray, List.map_cons, List.map_nil]); first | done | rfl) ?_
      refine (rr_fits At a1 (by rw [← HA1.out]; exact H48.out) w10 0).mono ?_
      rintro e w' ⟨rfl, ⟨nd, rfl⟩⟩
      rw [c5q]
      refine ⟨_, rfl, ?_⟩
      refine hK.out _ _ hHeld (fun hHeld => ?_)
      clear hK K
      refine norm_ (a' := ?_) ?_ ?_
      rotate_left
      ·
       show Act.put _ (some 174) _ = _
       simp only [Act.put, List.setIfInBounds_toArray, List.set_cons_zero, List.set_cons_succ, i64_w, i32_w]
       rfl
      refine Sq.pv 30 175 2147483647 HT_ ?_
      refine Sq.pv 31 176 4294967295 HT_ ?_
      refine done_ (done_of HT_.out (by kernel_rfl)) ?_
      go_wp2
      go_ret
      exact ⟨by rw [← HRES.out, rb_jump hlt hjk]; rfl, (by first | exact HB.out | exact pw_below_drewN HB.out _)⟩
    have hjk : jokB (l0_0.length : Int) a1_ l0_1 k = true := by unfold jokB; simp only [d1, HPv.out, ← HAt.out, d2, Bool.and_false, Bool.false_and, Bool.not_false, Bool.true_and, Bool.and_self]; simp [← HKd.out, d3, d4, ← HAt.out, c5]
    clear c3 c4
    as_aux_lemma =>
     have e0w := e0
     have e1w := e1
     rw [i64_w] at e0w e1w
     refine start_ (n := 32) (S := fun w' => w'.cell? ⟨g6, 0, none⟩ = some (.int .i64 At) ∧ w'.cell? ⟨g6, 1, none⟩ = some (.int .i64 Kd) ∧ w'.cell? ⟨g3, 0, none⟩ = some (.slice A0_0 l0_0.length c0_0) ∧ w'.cell? ⟨g3, 1, none⟩ = some (.slice (some ad) l0_1.length c0_1) ∧ w'.cell? (ad.add ((wrap64 ((k : Int) - 1)).toNat * 2)) = some (.int .i64 Pv)) (ds := []) (Sq.bm 32 0) (by kernel_rfl) rfl (by kernel_rfl) ⟨z0, z1, s0, s1, (by rw [← i64_w]; exact hp0)⟩ (fun hHeld => ?_); refine with_tabW longcaseref06_Right.tab24 longcaseref06_Right.bits24 (fun HT_ HW_ => ?_)
     replace B2 := Aside0.mk (blk_drew B2.out)
     replace B6 := Aside0.mk (blk_drew B6.out)
     replace HB := Aside0.mk (below_drew1 HB.out)
     clear z0 z1 s0 s1 hp0 e0 e1
     generalize w9.drew = w10 at B2 B6 HB hHeld ⊢
     refine Sq.pv 0 145 1 HT_ ?_
     refine Sq.pv 1 146 3 HT_ ?_
     refine Sq.pv 2 147 7 HT_ ?_
     refine Sq.pv 3 148 15 HT_ ?_
     refine Sq.pv 5 150 47 HT_ ?_
     refine Sq.pv 7 152 175 HT_ ?_
     refine Sq.pv 8 153 431 HT_ ?_
     refine Sq.tv 4 149 447 HT_ HW_ hHeld ?_
     refine Sq.tv 6 151 511 HT_ HW_ hHeld ?_
     refine Sq.pv 9 154 1023 HT_ ?_
     refine Sq.pv 10 155 2047 HT_ ?_
     refine Sq.tv 11 156 4095 HT_ HW_ hHeld ?_
     refine Sq.pv 12 157 8191 HT_ ?_
     refine Sq.pv 13 158 16383 HT_ ?_
     refine Sq.pv 14 159 32767 HT_ ?_
     refine Sq.pv 15 160 65535 HT_ ?_
     refine Sq.tv 16 161 131071 HT_ HW_ hHeld ?_
     refine Sq.pv 17 162 262143 HT_ ?_
     refine Sq.pv 18 163 524287 HT_ ?_
     refine Sq.pv 19 164 1048575 HT_ ?_
     refine Sq.pv 20 165 2097151 HT_ ?_
     refine Sq.pv 22 167 6291455 HT_ ?_
     refine Sq.tv 21 166 8388607 HT_ HW_ hHeld ?_
     refine Sq.pv 23 168 16777215 HT_ ?_
     refine Sq.pv 24 169 33554431 HT_ ?_
     refine Sq.pv 25 170 67108863 HT_ ?_
     refine Sq.pv 26 171 134217727 HT_ ?_
     refine Sq.pv 28 173 402653183 HT_ ?_
     refine Sq.tv 27 172 536870911 HT_ HW_ hHeld ?_
     refine one_ (i := 29) (N := some 174) (bm 32 1073741823) rfl rfl (one_of HT_.out (by kernel_rfl)) (by decide) (fun K hK => ?_)
     refine goes_ Try.func25 (by kernel_rfl) rfl #[.int .i64 At, .int .i64 a1] (by rfl) rfl rfl (by (try simp only [List.map_toArray, List.map_cons, List.map_nil]); first | done | rfl) ?_
     refine (rr_fits At a1 (by rw [← HA1.out]; exact H48.out) w10 0).mono ?_
     rintro e w' ⟨rfl, ⟨nd, rfl⟩⟩
     rw [c5q]
     refine ⟨_, rfl, ?_⟩
     refine hK.out _ _ hHeld (fun hHeld => ?_)
     clear hK K
     refine norm_ (a' := ?_) ?_ ?_
     rotate_left
     ·
      show Act.put _ (some 174) _ = _
      simp only [Act.put, List.setIfInBounds_toArray, List.set_cons_zero, List.set_cons_succ, i64_w, i32_w]
      rfl
     refine Sq.pv 30 175 2147483647 HT_ ?_
     refine Sq.pv 31 176 4294967295 HT_ ?_
     refine done_ (done_of HT_.out (by kernel_rfl)) ?_
     go_wp2
     go_roundw
     case rel => exact ⟨k + 1, by omega, by go_num, ⟨fun j hj => by rcases Nat.lt_succ_iff_lt_or_eq.1 hj with h | rfl; exact HA.out j h; exact hjk⟩, B2, ⟨(by first | exact HB.out | exact pw_below_drewN HB.out _)⟩⟩
     case measure => simp [intOf]; omega
   have hkl : k = l0_1.length := by omega
   subst hkl
   have cl : decide ((l0_1.length : Int) < (l0_1.length : Int)) = false := decide_eq_false (by omega)
   have HJA := Aside0.mk HA.out
   have B3 := B2
   clear HA hk hlt B2
   obtain ⟨s0, s1, s2, s3, s4⟩ := Sq.c5 B3
   go_wp2
   go_loopw [15, 16] (fun wv i wr => ∃ k : Nat, k ≤ l0_2.length ∧ wv = .int .i64 (wasL l0_2 k).2 ∧ i = .int .i64 k ∧ Aside0 (∀ j, j < k → lokB a2 a1_ l0_2 j = true) ∧ Aside0 (wr.heap[g3]? = some (.cells #[.slice A0_0 l0_0.length c0_0, .slice A0_1 l0_1.length c0_1, .slice A0_2 l0_2.length c0_2, .slice A0_3 l0_3.length c0_3, .slice A0_4 l0_4.length c0_4] 31 (0, 0))) ∧ Aside0 (Below w.heap.size w wr)) (fun _ i _ => l0_2.length - (intOf i).toNat)
   case atStart => exact ⟨0, by omega, rfl, rfl, ⟨fun j hj => absurd hj (Nat.not_lt_zero j)⟩, B3, HB⟩
   as_aux_lemma =>
    clear B3 HB s0 s1 s2 s3 s4
    obtain ⟨k, hk, rfl, rfl, HA, B3, HB⟩ := hrel
    by_cases hlt : k < l0_2.length
    rotate_left
    ·
     have hkl : k = l0_2.length := by omega
     subst hkl
     have cl : decide ((l0_2.length : Int) < (l0_2.length : Int)) = false := decide_eq_false (by omega)
     obtain ⟨s0, s1, s2, s3, s4⟩ := Sq.c5 B3
     have HLL := Aside0.mk HA.out
     clear HA hk hlt
     go_wp2
     go_ret
     exact ⟨by rw [← HRES.out, rb_true H48.out (by omega) (by omega) c5 c6 HKA.out (by rw [← HNN.out]; omega) HJA.out (by omega) HLL.out (by omega)]; rfl, HB.out⟩
    have cl : decide ((k : Int) < (l0_2.length : Int)) = true := decide_eq_true (by omega)
    have ck0 : decide (0 ≤ (k : Int)) = true := decide_eq_true (by omega)
    obtain ⟨ad, eA, hx0, hx1⟩ := at_T67 HR2.out (k : Int) (by omega) (by omega)
    subst eA
    replace hx0 := (HB.out.cell (World.block_lt_of_cell? w _ hx0)).trans hx0
    replace hx1 := (HB.out.cell (World.block_lt_of_cell? w _ hx1)).trans hx1
    simp only [Int.toNat_natCast] at hx0 hx1
    obtain ⟨r0, r1, r2, r3, r4⟩ := Sq.c5 B3
    obtain ⟨At, hAt⟩ : ∃ a, a = (rd_T67 l0_2 (k : Int)).f0 := ⟨_, rfl⟩
    obtain ⟨Co, hCo⟩ : ∃ a, a = (rd_T67 l0_2 (k : Int)).f1 := ⟨_, rfl⟩
    rw [← hAt] at hx0
    rw [← hCo] at hx1
    obtain ⟨Wa, hWa⟩ : ∃ a, a = (wasL l0_2 k).1 := ⟨_, rfl⟩
    obtain ⟨Wc, hWc⟩ : ∃ a, a = (wasL l0_2 k).2 := ⟨_, rfl⟩
    rw [← hWc]
    have hin : ∀ j : Nat, j < l0_2.length → -9223372036854775808 ≤ (rd_T67 l0_2 (j : Int)).f1 ∧ (rd_T67 l0_2 (j : Int)).f1 ≤ 9223372036854775807 := by
     intro j hj
     have e : rd_T67 l0_2 (j : Int) = l0_2[j] := by unfold rd_T67; simp [hj]
     rw [e]
     exact HGL.out _ (List.getElem_mem hj)
    have hcr := hin k hlt
    rw [← hCo] at hcr
    have hwr : -9223372036854775808 ≤ Wc ∧ Wc ≤ 9223372036854775807 := by
     rw [hWc]
     unfold wasL
     split
     ·
      exact ⟨by decide, by decide⟩
     exact hin (k - 1) (by omega)
    have hst : stepL l0_2 k = wrap64 (Co - Wc) := by unfold stepL; rw [← hCo, ← hWc]
    obtain ⟨St, hSt⟩ : ∃ a, a = wrap64 (Co - Wc) := ⟨_, rfl⟩
    obtain ⟨b1, hb1⟩ : ∃ x, x = (St == 1) := ⟨_, rfl⟩
    obtain ⟨b2, hb2⟩ : ∃ x, x = (St == -1) := ⟨_, rfl⟩
    have E1 : (Co == wrap64 (Wc + 1)) = b1 := by rw [hb1, hSt]; exact st1 hcr hwr
    have E2 : (Co == wrap64 (Wc - 1)) = b2 := by rw [hb2, hSt]; exact st2 hcr hwr
    have E0 := Aside0.mk (show (Co == Wc) = (St == 0) by rw [hSt]; exact st0 hcr hwr)
    obtain ⟨La, hLa⟩ : ∃ a, a = lastL a2 l0_2 k := ⟨_, rfl⟩
    have hlast : La = ((a2 == 4) && decide (0 < k) && ((k : Int) == wrap64 ((l0_2.length : Int) - 1)) && (St == 0)) := by rw [hLa, hSt]; unfold lastL; rw [hst]
    have HOK0 := Aside0.mk (show lokB a2 a1_ l0_2 k = (!decide (At ≤ Wa) && (b1 || b2 || La) && fitsB At a1_) by unfold lokB; rw [hst, ← hAt, ← hWa, hb1, hb2, hSt, hLa])
    have HWN := Aside0.mk (show (wasL l0_2 (k + 1)).2 = Co by unfold wasL; rw [if_neg (Nat.succ_ne_zero k), Nat.add_sub_cancel, ← hCo])
    have HWA := Aside0.mk hWa
    have HLA := Aside0.mk hlast
    clear hAt hCo hWa hWc hin hcr hwr hst hSt hb1 hb2 hLa hlast
    go_upto_region 31 with ((with_reducible refine gate_dst (N := 17) rfl ?_); refine box_event ?_ (N := 17) ?_ (cs := #[.int .i64 0, .int .i64 0]) (t := 67) ?_ ?_; (· rfl); (· rfl); (· first | (go_simp; done) | (go_simp; rfl)); intro g7 hg w8 hbox hb; have Bg7 := Aside0.mk hbox; have GEg7 := Aside0.mk (show wr.heap.size ≤ g7 by first | omega | (have h_ := below_size HB.out; omega)); clear hbox hg; have HW8 := Aside0.mk hb; clear hb; obtain ⟨z0, z1⟩ := Sq.c2 Bg7; have y0 := blk_frozen Bg7.out 0; have y1 := blk_frozen Bg7.out 1)
    have hne : g3 ≠ g7 := by have := blk_lt B3.out; have := GEg7.out; omega
    have GB7 : Aside0 (w.heap.size ≤ g7) := ⟨by have := HB.out.size; have := GEg7.out; omega⟩
    refine forget_wp (fun wc => Aside0 (wc.heap[g3]? = some (.cells #[.slice A0_0 l0_0.length c0_0, .slice A0_1 l0_1.length c0_1, .slice (some ad) l0_2.length c0_2, .slice A0_3 l0_3.length c0_3, .slice A0_4 l0_4.length c0_4] 31 (0, 0))) ∧ Aside0 (wc.heap[g7]? = some (.cells #[.int .i64 At, .int .i64 Co] 67 (0, 0))) ∧ Aside0 (Below w.heap.size w wc)) ⟨⟨blk_far (blk_far (blk_below B3.out HW8.out) hne _) hne _⟩, ⟨(blk_set (blk_set Bg7.out 0 _) 1 _).trans rfl⟩, ⟨below_set (below_set (below_step HB.out HW8.out) GB7.out) GB7.out⟩⟩ ?_
    clear Bg7 B3 HB HW8 GEg7 z0 z1 y0 y1 hx0 hx1 hne GB7 r0 r1 r2 r3 r4
    rintro w9 ⟨B3, B7, HB⟩
    obtain ⟨s0, s1, s2, s3, s4⟩ := Sq.c5 B3
    obtain ⟨z0, z1⟩ := Sq.c2 B7
    go_cut [18] (fun v18 wc => v18 = .bool (b1 || b2) ∧ wc = w9)
    case first =>
     cases b1 <;> cases b2
     all_goals
      go_wp2
      go_meet
      exact ⟨rfl, rfl⟩
    obtain ⟨rfl, hwc⟩ := hcut
    rw [hwc]
    clear hwc
    obtain ⟨On, hOn⟩ : ∃ x, x = (b1 || b2) := ⟨_, rfl⟩
    rw [← hOn]
    have HOK := Aside0.mk (show lokB a2 a1_ l0_2 k = (!decide (At ≤ Wa) && (On || La) && fitsB At a1_) by rw [hOn]; exact HOK0.out)
    clear hOn E1 E2 HOK0
    go_upto_region 32 with (fail)
    go_cut [19] (fun v19 wc => v19 = .bool La ∧ wc = w9)
    case first =>
     have HLA2 := HLA.out
     rw [w64 (n := (l0_2.length : Int) - 1) (by omega) (by omega)] at HLA2
     have E0 := E0.out
     obtain ⟨b0, hb0⟩ : ∃ x, x = (St == 0) := ⟨_, rfl⟩
     rw [← hb0] at HLA2 E0
     clear HLA hb0
     have hw : IntKind.i64.wrap ((l0_2.length : Int) - 1) = (l0_2.length : Int) - 1 := by rw [IntKind.wrap_i64]; omega
     rcases (show ((a2 == 4) = false) ∨ ((a2 == 4) = true ∧ decide (0 < k) = false) ∨ ((a2 == 4) = true ∧ decide (0 < k) = true ∧ ((k : Int) == (l0_2.length : Int) - 1) = false) ∨ ((a2 == 4) = true ∧ decide (0 < k) = true ∧ ((k : Int) == (l0_2.length : Int) - 1) = true) by
      cases (a2 == 4) <;> cases decide (0 < k) <;> cases ((k : Int) == (l0_2.length : Int) - 1) <;> simp) with e0 | ⟨e0, e1⟩ | ⟨e0, e1, e2⟩ | ⟨e0, e1, e2⟩
     all_goals
      rw [e0] at HLA2
      try rw [e1] at HLA2
      try rw [e2] at HLA2
      simp only [Bool.and_false, Bool.false_and, Bool.true_and, Bool.and_self] at HLA2
      try have e1i : decide (0 < (k : Int)) = _ := (by first | (have h_ := of_decide_eq_true e1; exact decide_eq_true (by omega)) | (have h_ := of_decide_eq_false e1; exact decide_eq_false (by omega)))
      go_wp2
      go_meet
      exact ⟨by rw [HLA2], rfl⟩
    obtain ⟨rfl, hwc⟩ := hcut
    rw [hwc]
    clear hwc HLA E0
    go_upto_region 33 with (fail)
    by_cases k0 : k = 0
    ·
     have dk0 : ((k : Int) == 0) = true := beq_iff_eq.2 (by omega)
     have dkp : decide (0 < (k : Int)) = false := decide_eq_false (by omega)
     have hW1 : Wa = -1 := by rw [HWA.out, k0]; rfl
     by_cases cA : At < 0
     ·
      have dA : decide (At < 0) = true := decide_eq_true cA
      as_aux_lemma =>
       refine start_ (n := 38) (S := fun w' => w'.cell? ⟨g7, 0, none⟩ = some (.int .i64 At) ∧ w'.cell? ⟨g7, 1, none⟩ = some (.int .i64 Co) ∧ w'.cell? ⟨g3, 0, none⟩ = some (.slice A0_0 l0_0.length c0_0) ∧ w'.cell? ⟨g3, 1, none⟩ = some (.slice A0_1 l0_1.length c0_1) ∧ w'.cell? ⟨g3, 2, none⟩ = some (.slice (some ad) l0_2.length c0_2)) (ds := []) (Sq.bm 38 0) (by kernel_rfl) rfl (by kernel_rfl) ⟨z0, z1, s0, s1, s2⟩ (fun hHeld => ?_); refine with_tabW longcaseref06_Right.tab33 longcaseref06_Right.bits33 (fun HT_ HW_ => ?_)
       replace B3 := Aside0.mk (blk_drew B3.out)
       replace B7 := Aside0.mk (blk_drew B7.out)
       replace HB := Aside0.mk (below_drew1 HB.out)
       clear z0 z1 s0 s1 s2
       generalize w9.drew = w10 at B3 B7 HB hHeld ⊢
       refine Sq.pv 0 221 1 HT_ ?_
       refine Sq.pv 1 222 3 HT_ ?_
       refine Sq.pv 2 223 7 HT_ ?_
       refine Sq.pv 3 224 15 HT_ ?_
       refine Sq.tv 4 225 31 HT_ HW_ hHeld ?_
       refine Sq.pv 5 226 63 HT_ ?_
       refine Sq.pv 6 227 127 HT_ ?_
       refine Sq.pv 7 228 255 HT_ ?_
       refine Sq.nv 8 229 511 HT_ ?_
       refine Sq.nv 9 230 1023 HT_ ?_
       refine Sq.nv 10 231 2047 HT_ ?_
       refine Sq.nv 11 232 4095 HT_ ?_
       refine Sq.nv 12 233 8191 HT_ ?_
       refine Sq.nv 13 234 16383 HT_ ?_
       refine Sq.nv 14 235 32767 HT_ ?_
       refine Sq.nv 15 236 65535 HT_ ?_
       refine Sq.nv 16 237 131071 HT_ ?_
       refine Sq.nv 17 238 262143 HT_ ?_
       refine Sq.nv 18 239 524287 HT_ ?_
       refine Sq.nv 19 240 1048575 HT_ ?_
       refine Sq.nv 20 241 2097151 HT_ ?_
       refine Sq.nv 21 242 4194303 HT_ ?_
       refine Sq.pv 22 243 8388607 HT_ ?_
       refine Sq.pv 23 244 16777215 HT_ ?_
       refine Sq.nv 24 245 33554431 HT_ ?_
       refine Sq.nv 25 246 67108863 HT_ ?_
       refine Sq.nv 26 247 134217727 HT_ ?_
       refine Sq.nv 27 248 268435455 HT_ ?_
       refine Sq.nv 28 249 536870911 HT_ ?_
       refine Sq.nv 29 250 1073741823 HT_ ?_
       refine Sq.pv 30 251 2147483647 HT_ ?_
       refine Sq.pv 31 252 4294967295 HT_ ?_
       refine Sq.nv 32 253 8589934591 HT_ ?_
       refine Sq.nv 33 254 17179869183 HT_ ?_
       refine Sq.nv 34 255 34359738367 HT_ ?_
       refine Sq.nv 35 256 68719476735 HT_ ?_
       refine Sq.nv 36 257 137438953471 HT_ ?_
       refine Sq.pv 37 258 274877906943 HT_ ?_
       refine done_ (done_of HT_.out (by kernel_rfl)) ?_
       go_wp2
       go_ret
       exact ⟨by rw [← HRES.out, rb_leap hlt (HOK.out.trans (by rw [decide_eq_true (show At ≤ Wa by omega)]; rfl))]; rfl, (by first | exact HB.out | exact pw_below_drewN HB.out _)⟩
     have dA : decide (At < 0) = false := decide_eq_false cA
     have DLE : decide (At ≤ Wa) = false := decide_eq_false (by omega)
     clear hW1
     cases On
     ·
      cases La
      ·
       as_aux_lemma =>
        refine start_ (n := 38) (S := fun w' => w'.cell? ⟨g7, 0, none⟩ = some (.int .i64 At) ∧ w'.cell? ⟨g7, 1, none⟩ = some (.int .i64 Co) ∧ w'.cell? ⟨g3, 0, none⟩ = some (.slice A0_0 l0_0.length c0_0) ∧ w'.cell? ⟨g3, 1, none⟩ = some (.slice A0_1 l0_1.length c0_1) ∧ w'.cell? ⟨g3, 2, none⟩ = some (.slice (some ad) l0_2.length c0_2)) (ds := []) (Sq.bm 38 0) (by kernel_rfl) rfl (by kernel_rfl) ⟨z0, z1, s0, s1, s2⟩ (fun hHeld => ?_); refine with_tabW longcaseref06_Right.tab33 longcaseref06_Right.bits33 (fun HT_ HW_ => ?_)
        replace B3 := Aside0.mk (blk_drew B3.out)
        replace B7 := Aside0.mk (blk_drew B7.out)
        replace HB := Aside0.mk (below_drew1 HB.out)
        clear z0 z1 s0 s1 s2
        generalize w9.drew = w10 at B3 B7 HB hHeld ⊢
        refine Sq.pv 0 221 1 HT_ ?_
        refine Sq.pv 1 222 3 HT_ ?_
        refine Sq.pv 2 223 7 HT_ ?_
        refine Sq.pv 3 224 15 HT_ ?_
        refine Sq.tv 4 225 31 HT_ HW_ hHeld ?_
        refine Sq.pv 5 226 63 HT_ ?_
        refine Sq.pv 6 227 127 HT_ ?_
        refine Sq.pv 7 228 255 HT_ ?_
        refine Sq.pv 8 229 511 HT_ ?_
        refine Sq.pv 9 230 1023 HT_ ?_
        refine Sq.pv 10 231 2047 HT_ ?_
        refine Sq.nv 11 232 4095 HT_ ?_
        refine Sq.nv 12 233 8191 HT_ ?_
        refine Sq.nv 13 234 16383 HT_ ?_
        refine Sq.nv 14 235 32767 HT_ ?_
        refine Sq.nv 15 236 65535 HT_ ?_
        refine Sq.nv 16 237 131071 HT_ ?_
        refine Sq.nv 17 238 262143 HT_ ?_
        refine Sq.nv 18 239 524287 HT_ ?_
        refine Sq.nv 19 240 1048575 HT_ ?_
        refine Sq.nv 20 241 2097151 HT_ ?_
        refine Sq.pv 21 242 4194303 HT_ ?_
        refine Sq.pv 22 243 8388607 HT_ ?_
        refine Sq.pv 23 244 16777215 HT_ ?_
        refine Sq.pv 24 245 33554431 HT_ ?_
        refine Sq.pv 25 246 67108863 HT_ ?_
        refine Sq.pv 26 247 134217727 HT_ ?_
        refine Sq.pv 27 248 268435455 HT_ ?_
        refine Sq.pv 28 249 536870911 HT_ ?_
        refine Sq.pv 29 250 1073741823 HT_ ?_
        refine Sq.pv 30 251 2147483647 HT_ ?_
        refine Sq.pv 31 252 4294967295 HT_ ?_
        refine Sq.nv 32 253 8589934591 HT_ ?_
        refine Sq.nv 33 254 17179869183 HT_ ?_
        refine Sq.nv 34 255 34359738367 HT_ ?_
        refine Sq.nv 35 256 68719476735 HT_ ?_
        refine Sq.nv 36 257 137438953471 HT_ ?_
        refine Sq.pv 37 258 274877906943 HT_ ?_
        refine done_ (done_of HT_.out (by kernel_rfl)) ?_
        go_wp2
        go_ret
        exact ⟨by rw [← HRES.out, rb_leap hlt (HOK.out.trans (by rw [DLE]; simp))]; rfl, (by first | exact HB.out | exact pw_below_drewN HB.out _)⟩
      obtain ⟨fv, hfv⟩ : ∃ x, x = fitsB At a1_ := ⟨_, rfl⟩
      have c5q := hfv.symm
      rw [HA1.out] at c5q
      have c5 := hfv.symm
      clear hfv
      cases fv
      ·
       as_aux_lemma =>
        refine start_ (n := 38) (S := fun w' => w'.cell? ⟨g7, 0, none⟩ = some (.int .i64 At) ∧ w'.cell? ⟨g7, 1, none⟩ = some (.int .i64 Co) ∧ w'.cell? ⟨g3, 0, none⟩ = some (.slice A0_0 l0_0.length c0_0) ∧ w'.cell? ⟨g3, 1, none⟩ = some (.slice A0_1 l0_1.length c0_1) ∧ w'.cell? ⟨g3, 2, none⟩ = some (.slice (some ad) l0_2.length c0_2)) (ds := []) (Sq.bm 38 0) (by kernel_rfl) rfl (by kernel_rfl) ⟨z0, z1, s0, s1, s2⟩ (fun hHeld => ?_); refine with_tabW longcaseref06_Right.tab33 longcaseref06_Right.bits33 (fun HT_ HW_ => ?_)
        replace B3 := Aside0.mk (blk_drew B3.out)
        replace B7 := Aside0.mk (blk_drew B7.out)
        replace HB := Aside0.mk (below_drew1 HB.out)
        clear z0 z1 s0 s1 s2
        generalize w9.drew = w10 at B3 B7 HB hHeld ⊢
        refine Sq.pv 0 221 1 HT_ ?_
        refine Sq.pv 1 222 3 HT_ ?_
        refine Sq.pv 2 223 7 HT_ ?_
        refine Sq.pv 3 224 15 HT_ ?_
        refine Sq.tv 4 225 31 HT_ HW_ hHeld ?_
        refine Sq.pv 5 226 63 HT_ ?_
        refine Sq.pv 6 227 127 HT_ ?_
        refine Sq.pv 7 228 255 HT_ ?_
        refine Sq.pv 8 229 511 HT_ ?_
        refine Sq.pv 9 230 1023 HT_ ?_
        refine Sq.pv 10 231 2047 HT_ ?_
        refine Sq.nv 11 232 4095 HT_ ?_
        refine Sq.nv 12 233 8191 HT_ ?_
        refine Sq.nv 13 234 16383 HT_ ?_
        refine Sq.nv 14 235 32767 HT_ ?_
        refine Sq.nv 15 236 65535 HT_ ?_
        refine Sq.nv 16 237 131071 HT_ ?_
        refine Sq.nv 17 238 262143 HT_ ?_
        refine Sq.nv 18 239 524287 HT_ ?_
        refine Sq.nv 19 240 1048575 HT_ ?_
        refine Sq.nv 20 241 2097151 HT_ ?_
        refine Sq.pv 21 242 4194303 HT_ ?_
        refine Sq.pv 22 243 8388607 HT_ ?_
        refine Sq.pv 23 244 16777215 HT_ ?_
        refine Sq.pv 24 245 33554431 HT_ ?_
        refine Sq.pv 25 246 67108863 HT_ ?_
        refine Sq.pv 26 247 134217727 HT_ ?_
        refine Sq.pv 27 248 268435455 HT_ ?_
        refine Sq.pv 28 249 536870911 HT_ ?_
        refine Sq.pv 29 250 1073741823 HT_ ?_
        refine Sq.pv 30 251 2147483647 HT_ ?_
        refine Sq.pv 31 252 4294967295 HT_ ?_
        refine Sq.pv 32 253 8589934591 HT_ ?_
        refine Sq.pv 34 255 25769803775 HT_ ?_
        refine Sq.tv 33 254 34359738367 HT_ HW_ hHeld ?_
        refine one_ (i := 35) (N := some 256) (bm 38 68719476735) rfl rfl (one_of HT_.out (by kernel_rfl)) (by decide) (fun K hK => ?_)
        refine goes_ Try.func25 (by kernel_rfl) rfl #[.int .i64 At, .int .i64 a1] (by rfl) rfl rfl (by (try simp only [List.map_toArray, List.map_cons, List.map_nil]); first | done | rfl) ?_
        refine (rr_fits At a1 (by rw [← HA1.out]; exact H48.out) w10 0).mono ?_
        rintro e w' ⟨rfl, ⟨nd, rfl⟩⟩
        rw [c5q]
        refine ⟨_, rfl, ?_⟩
        refine hK.out _ _ hHeld (fun hHeld => ?_)
        clear hK K
        refine norm_ (a' := ?_) ?_ ?_
        rotate_left
        ·
         show Act.put _ (some 256) _ = _
         simp only [Act.put, List.setIfInBounds_toArray, List.set_cons_zero, List.set_cons_succ, i64_w, i32_w]
         rfl
        refine Sq.pv 36 257 137438953471 HT_ ?_
        refine Sq.pv 37 258 274877906943 HT_ ?_
        refine done_ (done_of HT_.out (by kernel_rfl)) ?_
        go_wp2
        go_ret
        exact ⟨by rw [← HRES.out, rb_leap hlt (HOK.out.trans (by rw [DLE, c5]; simp))]; rfl, (by first | exact HB.out | exact pw_below_drewN HB.out _)⟩
      have hjk : lokB a2 a1_ l0_2 k = true := HOK.out.trans (by rw [DLE, c5]; rfl)
      as_aux_lemma =>
       refine start_ (n := 38) (S := fun w' => w'.cell? ⟨g7, 0, none⟩ = some (.int .i64 At) ∧ w'.cell? ⟨g7, 1, none⟩ = some (.int .i64 Co) ∧ w'.cell? ⟨g3, 0, none⟩ = some (.slice A0_0 l0_0.length c0_0) ∧ w'.cell? ⟨g3, 1, none⟩ = some (.slice A0_1 l0_1.length c0_1) ∧ w'.cell? ⟨g3, 2, none⟩ = some (.slice (some ad) l0_2.length c0_2)) (ds := []) (Sq.bm 38 0) (by kernel_rfl) rfl (by kernel_rfl) ⟨z0, z1, s0, s1, s2⟩ (fun hHeld => ?_); refine with_tabW longcaseref06_Right.tab33 longcaseref06_Right.bits33 (fun HT_ HW_ => ?_)
       replace B3 := Aside0.mk (blk_drew B3.out)
       replace B7 := Aside0.mk (blk_drew B7.out)
       replace HB := Aside0.mk (below_drew1 HB.out)
       clear z0 z1 s0 s1 s2
       generalize w9.drew = w10 at B3 B7 HB hHeld ⊢
       refine Sq.pv 0 221 1 HT_ ?_
       refine Sq.pv 1 222 3 HT_ ?_
       refine Sq.pv 2 223 7 HT_ ?_
       refine Sq.pv 3 224 15 HT_ ?_
       refine Sq.tv 4 225 31 HT_ HW_ hHeld ?_
       refine Sq.pv 5 226 63 HT_ ?_
       refine Sq.pv 6 227 127 HT_ ?_
       refine Sq.pv 7 228 255 HT_ ?_
       refine Sq.pv 8 229 511 HT_ ?_
       refine Sq.pv 9 230 1023 HT_ ?_
       refine Sq.pv 10 231 2047 HT_ ?_
       refine Sq.nv 11 232 4095 HT_ ?_
       refine Sq.nv 12 233 8191 HT_ ?_
       refine Sq.nv 13 234 16383 HT_ ?_
       refine Sq.nv 14 235 32767 HT_ ?_
       refine Sq.nv 15 236 65535 HT_ ?_
       refine Sq.nv 16 237 131071 HT_ ?_
       refine Sq.nv 17 238 262143 HT_ ?_
       refine Sq.nv 18 239 524287 HT_ ?_
       refine Sq.nv 19 240 1048575 HT_ ?_
       refine Sq.nv 20 241 2097151 HT_ ?_
       refine Sq.pv 21 242 4194303 HT_ ?_
       refine Sq.pv 22 243 8388607 HT_ ?_
       refine Sq.pv 23 244 16777215 HT_ ?_
       refine Sq.pv 24 245 33554431 HT_ ?_
       refine Sq.pv 25 246 67108863 HT_ ?_
       refine Sq.pv 26 247 134217727 HT_ ?_
       refine Sq.pv 27 248 268435455 HT_ ?_
       refine Sq.pv 28 249 536870911 HT_ ?_
       refine Sq.pv 29 250 1073741823 HT_ ?_
       refine Sq.pv 30 251 2147483647 HT_ ?_
       refine Sq.pv 31 252 4294967295 HT_ ?_
       refine Sq.pv 32 253 8589934591 HT_ ?_
       refine Sq.pv 34 255 25769803775 HT_ ?_
       refine Sq.tv 33 254 34359738367 HT_ HW_ hHeld ?_
       refine one_ (i := 35) (N := some 256) (bm 38 68719476735) rfl rfl (one_of HT_.out (by kernel_rfl)) (by decide) (fun K hK => ?_)
       refine goes_ Try.func25 (by kernel_rfl) rfl #[.int .i64 At, .int .i64 a1] (by rfl) rfl rfl (by (try simp only [List.map_toArray, List.map_cons, List.map_nil]); first | done | rfl) ?_
       refine (rr_fits At a1 (by rw [← HA1.out]; exact H48.out) w10 0).mono ?_
       rintro e w' ⟨rfl, ⟨nd, rfl⟩⟩
       rw [c5q]
       refine ⟨_, rfl, ?_⟩
       refine hK.out _ _ hHeld (fun hHeld => ?_)
       clear hK K
       refine norm_ (a' := ?_) ?_ ?_
       rotate_left
       ·
        show Act.put _ (some 256) _ = _
        simp only [Act.put, List.setIfInBounds_toArray, List.set_cons_zero, List.set_cons_succ, i64_w, i32_w]
        rfl
       refine Sq.pv 36 257 137438953471 HT_ ?_
       refine Sq.pv 37 258 274877906943 HT_ ?_
       refine done_ (done_of HT_.out (by kernel_rfl)) ?_
       go_wp2
       go_roundw
       case rel => exact ⟨k + 1, by omega, by rw [HWN.out], by go_num, ⟨fun j hj => by rcases Nat.lt_succ_iff_lt_or_eq.1 hj with h | rfl; exact HA.out j h; exact hjk⟩, B3, ⟨(by first | exact HB.out | exact pw_below_drewN HB.out _)⟩⟩
       case measure => simp [intOf]; omega
     obtain ⟨fv, hfv⟩ : ∃ x, x = fitsB At a1_ := ⟨_, rfl⟩
     have c5q := hfv.symm
     rw [HA1.out] at c5q
     have c5 := hfv.symm
     clear hfv
     cases fv
     ·
      as_aux_lemma =>
       refine start_ (n := 38) (S := fun w' => w'.cell? ⟨g7, 0, none⟩ = some (.int .i64 At) ∧ w'.cell? ⟨g7, 1, none⟩ = some (.int .i64 Co) ∧ w'.cell? ⟨g3, 0, none⟩ = some (.slice A0_0 l0_0.length c0_0) ∧ w'.cell? ⟨g3, 1, none⟩ = some (.slice A0_1 l0_1.length c0_1) ∧ w'.cell? ⟨g3, 2, none⟩ = some (.slice (some ad) l0_2.length c0_2)) (ds := []) (Sq.bm 38 0) (by kernel_rfl) rfl (by kernel_rfl) ⟨z0, z1, s0, s1, s2⟩ (fun hHeld => ?_); refine with_tabW longcaseref06_Right.tab33 longcaseref06_Right.bits33 (fun HT_ HW_ => ?_)
       replace B3 := Aside0.mk (blk_drew B3.out)
       replace B7 := Aside0.mk (blk_drew B7.out)
       replace HB := Aside0.mk (below_drew1 HB.out)
       clear z0 z1 s0 s1 s2
       generalize w9.drew = w10 at B3 B7 HB hHeld ⊢
       refine Sq.pv 0 221 1 HT_ ?_
       refine Sq.pv 1 222 3 HT_ ?_
       refine Sq.pv 2 223 7 HT_ ?_
       refine Sq.pv 3 224 15 HT_ ?_
       refine Sq.tv 4 225 31 HT_ HW_ hHeld ?_
       refine Sq.pv 5 226 63 HT_ ?_
       refine Sq.pv 6 227 127 HT_ ?_
       refine Sq.pv 7 228 255 HT_ ?_
       refine Sq.pv 8 229 511 HT_ ?_
       refine Sq.pv 9 230 1023 HT_ ?_
       refine Sq.pv 10 231 2047 HT_ ?_
       refine Sq.nv 11 232 4095 HT_ ?_
       refine Sq.nv 12 233 8191 HT_ ?_
       refine Sq.nv 13 234 16383 HT_ ?_
       refine Sq.nv 14 235 32767 HT_ ?_
       refine Sq.nv 15 236 65535 HT_ ?_
       refine Sq.nv 16 237 131071 HT_ ?_
       refine Sq.nv 17 238 262143 HT_ ?_
       refine Sq.nv 18 239 524287 HT_ ?_
       refine Sq.nv 19 240 1048575 HT_ ?_
       refine Sq.nv 20 241 2097151 HT_ ?_
       refine Sq.pv 21 242 4194303 HT_ ?_
       refine Sq.pv 22 243 8388607 HT_ ?_
       refine Sq.pv 23 244 16777215 HT_ ?_
       refine Sq.pv 24 245 33554431 HT_ ?_
       refine Sq.pv 25 246 67108863 HT_ ?_
       refine Sq.pv 26 247 134217727 HT_ ?_
       refine Sq.nv 27 248 268435455 HT_ ?_
       refine Sq.nv 28 249 536870911 HT_ ?_
       refine Sq.pv 29 250 1073741823 HT_ ?_
       refine Sq.pv 30 251 2147483647 HT_ ?_
       refine Sq.pv 31 252 4294967295 HT_ ?_
       refine Sq.pv 32 253 8589934591 HT_ ?_
       refine Sq.pv 34 255 25769803775 HT_ ?_
       refine Sq.tv 33 254 34359738367 HT_ HW_ hHeld ?_
       refine one_ (i := 35) (N := some 256) (bm 38 68719476735) rfl rfl (one_of HT_.out (by kernel_rfl)) (by decide) (fun K hK => ?_)
       refine goes_ Try.func25 (by kernel_rfl) rfl #[.int .i64 At, .int .i64 a1] (by rfl) rfl rfl (by (try simp only [List.map_toArray, List.map_cons, List.map_nil]); first | done | rfl) ?_
       refine (rr_fits At a1 (by rw [← HA1.out]; exact H48.out) w10 0).mono ?_
       rintro e w' ⟨rfl, ⟨nd, rfl⟩⟩
       rw [c5q]
       refine ⟨_, rfl, ?_⟩
       refine hK.out _ _ hHeld (fun hHeld => ?_)
       clear hK K
       refine norm_ (a' := ?_) ?_ ?_
       rotate_left
       ·
        show Act.put _ (some 256) _ = _
        simp only [Act.put, List.setIfInBounds_toArray, List.set_cons_zero, List.set_cons_succ, i64_w, i32_w]
        rfl
       refine Sq.pv 36 257 137438953471 HT_ ?_
       refine Sq.pv 37 258 274877906943 HT_ ?_
       refine done_ (done_of HT_.out (by kernel_rfl)) ?_
       go_wp2
       go_ret
       exact ⟨by rw [← HRES.out, rb_leap hlt (HOK.out.trans (by rw [DLE, c5]; simp))]; rfl, (by first | exact HB.out | exact pw_below_drewN HB.out _)⟩
     have hjk : lokB a2 a1_ l0_2 k = true := HOK.out.trans (by rw [DLE, c5]; rfl)
     as_aux_lemma =>
      refine start_ (n := 38) (S := fun w' => w'.cell? ⟨g7, 0, none⟩ = some (.int .i64 At) ∧ w'.cell? ⟨g7, 1, none⟩ = some (.int .i64 Co) ∧ w'.cell? ⟨g3, 0, none⟩ = some (.slice A0_0 l0_0.length c0_0) ∧ w'.cell? ⟨g3, 1, none⟩ = some (.slice A0_1 l0_1.length c0_1) ∧ w'.cell? ⟨g3, 2, none⟩ = some (.slice (some ad) l0_2.length c0_2)) (ds := []) (Sq.bm 38 0) (by kernel_rfl) rfl (by kernel_rfl) ⟨z0, z1, s0, s1, s2⟩ (fun hHeld => ?_); refine with_tabW longcaseref06_Right.tab33 longcaseref06_Right.bits33 (fun HT_ HW_ => ?_)
      replace B3 := Aside0.mk (blk_drew B3.out)
      replace B7 := Aside0.mk (blk_drew B7.out)
      replace HB := Aside0.mk (below_drew1 HB.out)
      clear z0 z1 s0 s1 s2
      generalize w9.drew = w10 at B3 B7 HB hHeld ⊢
      refine Sq.pv 0 221 1 HT_ ?_
      refine Sq.pv 1 222 3 HT_ ?_
      refine Sq.pv 2 223 7 HT_ ?_
      refine Sq.pv 3 224 15 HT_ ?_
      refine Sq.tv 4 225 31 HT_ HW_ hHeld ?_
      refine Sq.pv 5 226 63 HT_ ?_
      refine Sq.pv 6 227 127 HT_ ?_
      refine Sq.pv 7 228 255 HT_ ?_
      refine Sq.pv 8 229 511 HT_ ?_
      refine Sq.pv 9 230 1023 HT_ ?_
      refine Sq.pv 10 231 2047 HT_ ?_
      refine Sq.nv 11 232 4095 HT_ ?_
      refine Sq.nv 12 233 8191 HT_ ?_
      refine Sq.nv 13 234 16383 HT_ ?_
      refine Sq.nv 14 235 32767 HT_ ?_
      refine Sq.nv 15 236 65535 HT_ ?_
      refine Sq.nv 16 237 131071 HT_ ?_
      refine Sq.nv 17 238 262143 HT_ ?_
      refine Sq.nv 18 239 524287 HT_ ?_
      refine Sq.nv 19 240 1048575 HT_ ?_
      refine Sq.nv 20 241 2097151 HT_ ?_
      refine Sq.pv 21 242 4194303 HT_ ?_
      refine Sq.pv 22 243 8388607 HT_ ?_
      refine Sq.pv 23 244 16777215 HT_ ?_
      refine Sq.pv 24 245 33554431 HT_ ?_
      refine Sq.pv 25 246 67108863 HT_ ?_
      refine Sq.pv 26 247 134217727 HT_ ?_
      refine Sq.nv 27 248 268435455 HT_ ?_
      refine Sq.nv 28 249 536870911 HT_ ?_
      refine Sq.pv 29 250 1073741823 HT_ ?_
      refine Sq.pv 30 251 2147483647 HT_ ?_
      refine Sq.pv 31 252 4294967295 HT_ ?_
      refine Sq.pv 32 253 8589934591 HT_ ?_
      refine Sq.pv 34 255 25769803775 HT_ ?_
      refine Sq.tv 33 254 34359738367 HT_ HW_ hHeld ?_
      refine one_ (i := 35) (N := some 256) (bm 38 68719476735) rfl rfl (one_of HT_.out (by kernel_rfl)) (by decide) (fun K hK => ?_)
      refine goes_ Try.func25 (by kernel_rfl) rfl #[.int .i64 At, .int .i64 a1] (by rfl) rfl rfl (by (try simp only [List.map_toArray, List.map_cons, List.map_nil]); first | done | rfl) ?_
      refine (rr_fits At a1 (by rw [← HA1.out]; exact H48.out) w10 0).mono ?_
      rintro e w' ⟨rfl, ⟨nd, rfl⟩⟩
      rw [c5q]
      refine ⟨_, rfl, ?_⟩
      refine hK.out _ _ hHeld (fun hHeld => ?_)
      clear hK K
      refine norm_ (a' := ?_) ?_ ?_
      rotate_left
      ·
       show Act.put _ (some 256) _ = _
       simp only [Act.put, List.setIfInBounds_toArray, List.set_cons_zero, List.set_cons_succ, i64_w, i32_w]
       rfl
      refine Sq.pv 36 257 137438953471 HT_ ?_
      refine Sq.pv 37 258 274877906943 HT_ ?_
      refine done_ (done_of HT_.out (by kernel_rfl)) ?_
      go_wp2
      go_roundw
      case rel => exact ⟨k + 1, by omega, by rw [HWN.out], by go_num, ⟨fun j hj => by rcases Nat.lt_succ_iff_lt_or_eq.1 hj with h | rfl; exact HA.out j h; exact hjk⟩, B3, ⟨(by first | exact HB.out | exact pw_below_drewN HB.out _)⟩⟩
      case measure => simp [intOf]; omega
    have dk0 : ((k : Int) == 0) = false := beq_eq_false_iff_ne.2 (by omega)
    have dkp : decide (0 < (k : Int)) = true := decide_eq_true (by omega)
    have dkn : decide (0 < k) = true := decide_eq_true (by omega)
    have hw : IntKind.i64.wrap ((k : Int) - 1) = (k : Int) - 1 := by rw [IntKind.wrap_i64]; omega
    have e0 : (0 ≤ IntKind.i64.wrap ((k : Int) - 1)) = True := eq_true (by rw [hw]; omega)
    have e1 : (IntKind.i64.wrap ((k : Int) - 1) < (l0_2.length : Int)) = True := eq_true (by rw [hw]; omega)
    obtain ⟨ad2, eA2, hp0, hp1⟩ := at_T67 HR2.out (IntKind.i64.wrap ((k : Int) - 1)) (by rw [hw]; omega) (by rw [hw]; omega)
    cases eA2
    replace hp0 := (HB.out.cell (World.block_lt_of_cell? w _ hp0)).trans hp0
    clear hp1
    have hWa2 : (rd_T67 l0_2 (IntKind.i64.wrap ((k : Int) - 1))).f0 = Wa := by
     rw [hw, HWA.out]
     unfold wasL
     rw [if_neg k0]
     show (rd_T67 l0_2 ((k : Int) - 1)).f0 = (rd_T67 l0_2 ((k - 1 : Nat) : Int)).f0
     rw [show ((k : Int) - 1) = ((k - 1 : Nat) : Int) by omega]
    rw [hWa2] at hp0
    clear hWa2 hw
    by_cases cA : At ≤ Wa
    ·
     have dA : decide (At ≤ Wa) = true := decide_eq_true cA
     as_aux_lemma =>
      have e0w := e0
      have e1w := e1
      rw [i64_w] at e0w e1w
      refine start_ (n := 38) (S := fun w' => w'.cell? ⟨g7, 0, none⟩ = some (.int .i64 At) ∧ w'.cell? ⟨g7, 1, none⟩ = some (.int .i64 Co) ∧ w'.cell? ⟨g3, 0, none⟩ = some (.slice A0_0 l0_0.length c0_0) ∧ w'.cell? ⟨g3, 1, none⟩ = some (.slice A0_1 l0_1.length c0_1) ∧ w'.cell? ⟨g3, 2, none⟩ = some (.slice (some ad) l0_2.length c0_2) ∧ w'.cell? (ad.add ((wrap64 ((k : Int) - 1)).toNat * 2)) = some (.int .i64 Wa)) (ds := []) (Sq.bm 38 0) (by kernel_rfl) rfl (by kernel_rfl) ⟨z0, z1, s0, s1, s2, (by rw [← i64_w]; exact hp0)⟩ (fun hHeld => ?_); refine with_tabW longcaseref06_Right.tab33 longcaseref06_Right.bits33 (fun HT_ HW_ => ?_)
      replace B3 := Aside0.mk (blk_drew B3.out)
      replace B7 := Aside0.mk (blk_drew B7.out)
      replace HB := Aside0.mk (below_drew1 HB.out)
      clear z0 z1 s0 s1 s2 hp0 e0 e1
      generalize w9.drew = w10 at B3 B7 HB hHeld ⊢
      refine Sq.pv 0 221 1 HT_ ?_
      refine Sq.pv 1 222 3 HT_ ?_
      refine Sq.pv 2 223 7 HT_ ?_
      refine Sq.nv 3 224 15 HT_ ?_
      refine Sq.nv 4 225 31 HT_ ?_
      refine Sq.nv 5 226 63 HT_ ?_
      refine Sq.pv 6 227 127 HT_ ?_
      refine Sq.pv 7 228 255 HT_ ?_
      refine Sq.pv 8 229 511 HT_ ?_
      refine Sq.pv 9 230 1023 HT_ ?_
      refine Sq.pv 10 231 2047 HT_ ?_
      refine Sq.pv 11 232 4095 HT_ ?_
      refine Sq.pv 13 234 12287 HT_ ?_
      refine Sq.pv 15 236 45055 HT_ ?_
      refine Sq.pv 16 237 110591 HT_ ?_
      refine Sq.tv 12 233 114687 HT_ HW_ hHeld ?_
      refine Sq.tv 14 235 131071 HT_ HW_ hHeld ?_
      refine Sq.pv 17 238 262143 HT_ ?_
      refine Sq.pv 18 239 524287 HT_ ?_
      refine Sq.tv 19 240 1048575 HT_ HW_ hHeld ?_
      refine Sq.pv 20 241 2097151 HT_ ?_
      refine Sq.pv 21 242 4194303 HT_ ?_
      refine Sq.pv 22 243 8388607 HT_ ?_
      refine Sq.pv 23 244 16777215 HT_ ?_
      refine Sq.nv 24 245 33554431 HT_ ?_
      refine Sq.nv 25 246 67108863 HT_ ?_
      refine Sq.nv 26 247 134217727 HT_ ?_
      refine Sq.nv 27 248 268435455 HT_ ?_
      refine Sq.nv 28 249 536870911 HT_ ?_
      refine Sq.nv 29 250 1073741823 HT_ ?_
      refine Sq.pv 30 251 2147483647 HT_ ?_
      refine Sq.pv 31 252 4294967295 HT_ ?_
      refine Sq.nv 32 253 8589934591 HT_ ?_
      refine Sq.nv 33 254 17179869183 HT_ ?_
      refine Sq.nv 34 255 34359738367 HT_ ?_
      refine Sq.nv 35 256 68719476735 HT_ ?_
      refine Sq.nv 36 257 137438953471 HT_ ?_
      refine Sq.pv 37 258 274877906943 HT_ ?_
      refine done_ (done_of HT_.out (by kernel_rfl)) ?_
      go_wp2
      go_ret
      exact ⟨by rw [← HRES.out, rb_leap hlt (HOK.out.trans (by rw [dA]; rfl))]; rfl, (by first | exact HB.out | exact pw_below_drewN HB.out _)⟩
    have DLE : decide (At ≤ Wa) = false := decide_eq_false cA
    cases On
    ·
     cases La
     ·
      as_aux_lemma =>
       have e0w := e0
       have e1w := e1
       rw [i64_w] at e0w e1w
       refine start_ (n := 38) (S := fun w' => w'.cell? ⟨g7, 0, none⟩ = some (.int .i64 At) ∧ w'.cell? ⟨g7, 1, none⟩ = some (.int .i64 Co) ∧ w'.cell? ⟨g3, 0, none⟩ = some (.slice A0_0 l0_0.length c0_0) ∧ w'.cell? ⟨g3, 1, none⟩ = some (.slice A0_1 l0_1.length c0_1) ∧ w'.cell? ⟨g3, 2, none⟩ = some (.slice (some ad) l0_2.length c0_2) ∧ w'.cell? (ad.add ((wrap64 ((k : Int) - 1)).toNat * 2)) = some (.int .i64 Wa)) (ds := []) (Sq.bm 38 0) (by kernel_rfl) rfl (by kernel_rfl) ⟨z0, z1, s0, s1, s2, (by rw [← i64_w]; exact hp0)⟩ (fun hHeld => ?_); refine with_tabW longcaseref06_Right.tab33 longcaseref06_Right.bits33 (fun HT_ HW_ => ?_)
       replace B3 := Aside0.mk (blk_drew B3.out)
       replace B7 := Aside0.mk (blk_drew B7.out)
       replace HB := Aside0.mk (below_drew1 HB.out)
       clear z0 z1 s0 s1 s2 hp0 e0 e1
       generalize w9.drew = w10 at B3 B7 HB hHeld ⊢
       refine Sq.pv 0 221 1 HT_ ?_
       refine Sq.pv 1 222 3 HT_ ?_
       refine Sq.pv 2 223 7 HT_ ?_
       refine Sq.nv 3 224 15 HT_ ?_
       refine Sq.nv 4 225 31 HT_ ?_
       refine Sq.nv 5 226 63 HT_ ?_
       refine Sq.pv 6 227 127 HT_ ?_
       refine Sq.pv 7 228 255 HT_ ?_
       refine Sq.pv 8 229 511 HT_ ?_
       refine Sq.pv 9 230 1023 HT_ ?_
       refine Sq.pv 10 231 2047 HT_ ?_
       refine Sq.pv 11 232 4095 HT_ ?_
       refine Sq.pv 13 234 12287 HT_ ?_
       refine Sq.pv 15 236 45055 HT_ ?_
       refine Sq.pv 16 237 110591 HT_ ?_
       refine Sq.tv 12 233 114687 HT_ HW_ hHeld ?_
       refine Sq.tv 14 235 131071 HT_ HW_ hHeld ?_
       refine Sq.pv 17 238 262143 HT_ ?_
       refine Sq.pv 18 239 524287 HT_ ?_
       refine Sq.tv 19 240 1048575 HT_ HW_ hHeld ?_
       refine Sq.pv 20 241 2097151 HT_ ?_
       refine Sq.pv 21 242 4194303 HT_ ?_
       refine Sq.pv 22 243 8388607 HT_ ?_
       refine Sq.pv 23 244 16777215 HT_ ?_
       refine Sq.pv 24 245 33554431 HT_ ?_
       refine Sq.pv 25 246 67108863 HT_ ?_
       refine Sq.pv 26 247 134217727 HT_ ?_
       refine Sq.pv 27 248 268435455 HT_ ?_
       refine Sq.pv 28 249 536870911 HT_ ?_
       refine Sq.pv 29 250 1073741823 HT_ ?_
       refine Sq.pv 30 251 2147483647 HT_ ?_
       refine Sq.pv 31 252 4294967295 HT_ ?_
       refine Sq.nv 32 253 8589934591 HT_ ?_
       refine Sq.nv 33 254 17179869183 HT_ ?_
       refine Sq.nv 34 255 34359738367 HT_ ?_
       refine Sq.nv 35 256 68719476735 HT_ ?_
       refine Sq.nv 36 257 137438953471 HT_ ?_
       refine Sq.pv 37 258 274877906943 HT_ ?_
       refine done_ (done_of HT_.out (by kernel_rfl)) ?_
       go_wp2
       go_ret
       exact ⟨by rw [← HRES.out, rb_leap hlt (HOK.out.trans (by rw [DLE]; simp))]; rfl, (by first | exact HB.out | exact pw_below_drewN HB.out _)⟩
     obtain ⟨fv, hfv⟩ : ∃ x, x = fitsB At a1_ := ⟨_, rfl⟩
     have c5q := hfv.symm
     rw [HA1.out] at c5q
     have c5 := hfv.symm
     clear hfv
     cases fv
     ·
      as_aux_lemma =>
       have e0w := e0
       have e1w := e1
       rw [i64_w] at e0w e1w
       refine start_ (n := 38) (S := fun w' => w'.cell? ⟨g7, 0, none⟩ = some (.int .i64 At) ∧ w'.cell? ⟨g7, 1, none⟩ = some (.int .i64 Co) ∧ w'.cell? ⟨g3, 0, none⟩ = some (.slice A0_0 l0_0.length c0_0) ∧ w'.cell? ⟨g3, 1, none⟩ = some (.slice A0_1 l0_1.length c0_1) ∧ w'.cell? ⟨g3, 2, none⟩ = some (.slice (some ad) l0_2.length c0_2) ∧ w'.cell? (ad.add ((wrap64 ((k : Int) - 1)).toNat * 2)) = some (.int .i64 Wa)) (ds := []) (Sq.bm 38 0) (by kernel_rfl) rfl (by kernel_rfl) ⟨z0, z1, s0, s1, s2, (by rw [← i64_w]; exact hp0)⟩ (fun hHeld => ?_); refine with_tabW longcaseref06_Right.tab33 longcaseref06_Right.bits33 (fun HT_ HW_ => ?_)
       replace B3 := Aside0.mk (blk_drew B3.out)
       replace B7 := Aside0.mk (blk_drew B7.out)
       replace HB := Aside0.mk (below_drew1 HB.out)
       clear z0 z1 s0 s1 s2 hp0 e0 e1
       generalize w9.drew = w10 at B3 B7 HB hHeld ⊢
       refine Sq.pv 0 221 1 HT_ ?_
       refine Sq.pv 1 222 3 HT_ ?_
       refine Sq.pv 2 223 7 HT_ ?_
       refine Sq.nv 3 224 15 HT_ ?_
       refine Sq.nv 4 225 31 HT_ ?_
       refine Sq.nv 5 226 63 HT_ ?_
       refine Sq.pv 6 227 127 HT_ ?_
       refine Sq.pv 7 228 255 HT_ ?_
       refine Sq.pv 8 229 511 HT_ ?_
       refine Sq.pv 9 230 1023 HT_ ?_
       refine Sq.pv 10 231 2047 HT_ ?_
       refine Sq.pv 11 232 4095 HT_ ?_
       refine Sq.pv 13 234 12287 HT_ ?_
       refine Sq.pv 15 236 45055 HT_ ?_
       refine Sq.pv 16 237 110591 HT_ ?_
       refine Sq.tv 12 233 114687 HT_ HW_ hHeld ?_
       refine Sq.tv 14 235 131071 HT_ HW_ hHeld ?_
       refine Sq.pv 17 238 262143 HT_ ?_
       refine Sq.pv 18 239 524287 HT_ ?_
       refine Sq.tv 19 240 1048575 HT_ HW_ hHeld ?_
       refine Sq.pv 20 241 2097151 HT_ ?_
       refine Sq.pv 21 242 4194303 HT_ ?_
       refine Sq.pv 22 243 8388607 HT_ ?_
       refine Sq.pv 23 244 16777215 HT_ ?_
       refine Sq.pv 24 245 33554431 HT_ ?_
       refine Sq.pv 25 246 67108863 HT_ ?_
       refine Sq.pv 26 247 134217727 HT_ ?_
       refine Sq.pv 27 248 268435455 HT_ ?_
       refine Sq.pv 28 249 536870911 HT_ ?_
       refine Sq.pv 29 250 1073741823 HT_ ?_
       refine Sq.pv 30 251 2147483647 HT_ ?_
       refine Sq.pv 31 252 4294967295 HT_ ?_
       refine Sq.pv 32 253 8589934591 HT_ ?_
       refine Sq.pv 34 255 25769803775 HT_ ?_
       refine Sq.tv 33 254 34359738367 HT_ HW_ hHeld ?_
       refine one_ (i := 35) (N := some 256) (bm 38 68719476735) rfl rfl (one_of HT_.out (by kernel_rfl)) (by decide) (fun K hK => ?_)
       refine goes_ Try.func25 (by kernel_rfl) rfl #[.int .i64 At, .int .i64 a1] (by rfl) rfl rfl (by (try simp only [List.map_toArray, List.map_cons, List.map_nil]); first | done | rfl) ?_
       refine (rr_fits At a1 (by rw [← HA1.out]; exact H48.out) w10 0).mono ?_
       rintro e w' ⟨rfl, ⟨nd, rfl⟩⟩
       rw [c5q]
       refine ⟨_, rfl, ?_⟩
       refine hK.out _ _ hHeld (fun hHeld => ?_)
       clear hK K
       refine norm_ (a' := ?_) ?_ ?_
       rotate_left
       ·
        show Act.put _ (some 256) _ = _
        simp only [Act.put, List.setIfInBounds_toArray, List.set_cons_zero, List.set_cons_succ, i64_w, i32_w]
        rfl
       refine Sq.pv 36 257 137438953471 HT_ ?_
       refine Sq.pv 37 258 274877906943 HT_ ?_
       refine done_ (done_of HT_.out (by kernel_rfl)) ?_
       go_wp2
       go_ret
       exact ⟨by rw [← HRES.out, rb_leap hlt (HOK.out.trans (by rw [DLE, c5]; simp))]; rfl, (by first | exact HB.out | exact pw_below_drewN HB.out _)⟩
     have hjk : lokB a2 a1_ l0_2 k = true := HOK.out.trans (by rw [DLE, c5]; rfl)
     as_aux_lemma =>
      have e0w := e0
      have e1w := e1
      rw [i64_w] at e0w e1w
      refine start_ (n := 38) (S := fun w' => w'.cell? ⟨g7, 0, none⟩ = some (.int .i64 At) ∧ w'.cell? ⟨g7, 1, none⟩ = some (.int .i64 Co) ∧ w'.cell? ⟨g3, 0, none⟩ = some (.slice A0_0 l0_0.length c0_0) ∧ w'.cell? ⟨g3, 1, none⟩ = some (.slice A0_1 l0_1.length c0_1) ∧ w'.cell? ⟨g3, 2, none⟩ = some (.slice (some ad) l0_2.length c0_2) ∧ w'.cell? (ad.add ((wrap64 ((k : Int) - 1)).toNat * 2)) = some (.int .i64 Wa)) (ds := []) (Sq.bm 38 0) (by kernel_rfl) rfl (by kernel_rfl) ⟨z0, z1, s0, s1, s2, (by rw [← i64_w]; exact hp0)⟩ (fun hHeld => ?_); refine with_tabW longcaseref06_Right.tab33 longcaseref06_Right.bits33 (fun HT_ HW_ => ?_)
      replace B3 := Aside0.mk (blk_drew B3.out)
      replace B7 := Aside0.mk (blk_drew B7.out)
      replace HB := Aside0.mk (below_drew1 HB.out)
      clear z0 z1 s0 s1 s2 hp0 e0 e1
      generalize w9.drew = w10 at B3 B7 HB hHeld ⊢
      refine Sq.pv 0 221 1 HT_ ?_
      refine Sq.pv 1 222 3 HT_ ?_
      refine Sq.pv 2 223 7 HT_ ?_
      refine Sq.nv 3 224 15 HT_ ?_
      refine Sq.nv 4 225 31 HT_ ?_
      refine Sq.nv 5 226 63 HT_ ?_
      refine Sq.pv 6 227 127 HT_ ?_
      refine Sq.pv 7 228 255 HT_ ?_
      refine Sq.pv 8 229 511 HT_ ?_
      refine Sq.pv 9 230 1023 HT_ ?_
      refine Sq.pv 10 231 2047 HT_ ?_
      refine Sq.pv 11 232 4095 HT_ ?_
      refine Sq.pv 13 234 12287 HT_ ?_
      refine Sq.pv 15 236 45055 HT_ ?_
      refine Sq.pv 16 237 110591 HT_ ?_
      refine Sq.tv 12 233 114687 HT_ HW_ hHeld ?_
      refine Sq.tv 14 235 131071 HT_ HW_ hHeld ?_
      refine Sq.pv 17 238 262143 HT_ ?_
      refine Sq.pv 18 239 524287 HT_ ?_
      refine Sq.tv 19 240 1048575 HT_ HW_ hHeld ?_
      refine Sq.pv 20 241 2097151 HT_ ?_
      refine Sq.pv 21 242 4194303 HT_ ?_
      refine Sq.pv 22 243 8388607 HT_ ?_
      refine Sq.pv 23 244 16777215 HT_ ?_
      refine Sq.pv 24 245 33554431 HT_ ?_
      refine Sq.pv 25 246 67108863 HT_ ?_
      refine Sq.pv 26 247 134217727 HT_ ?_
      refine Sq.pv 27 248 268435455 HT_ ?_
      refine Sq.pv 28 249 536870911 HT_ ?_
      refine Sq.pv 29 250 1073741823 HT_ ?_
      refine Sq.pv 30 251 2147483647 HT_ ?_
      refine Sq.pv 31 252 4294967295 HT_ ?_
      refine Sq.pv 32 253 8589934591 HT_ ?_
      refine Sq.pv 34 255 25769803775 HT_ ?_
      refine Sq.tv 33 254 34359738367 HT_ HW_ hHeld ?_
      refine one_ (i := 35) (N := some 256) (bm 38 68719476735) rfl rfl (one_of HT_.out (by kernel_rfl)) (by decide) (fun K hK => ?_)
      refine goes_ Try.func25 (by kernel_rfl) rfl #[.int .i64 At, .int .i64 a1] (by rfl) rfl rfl (by (try simp only [List.map_toArray, List.map_cons, List.map_nil]); first | done | rfl) ?_
      refine (rr_fits At a1 (by rw [← HA1.out]; exact H48.out) w10 0).mono ?_
      rintro e w' ⟨rfl, ⟨nd, rfl⟩⟩
      rw [c5q]
      refine ⟨_, rfl, ?_⟩
      refine hK.out _ _ hHeld (fun hHeld => ?_)
      clear hK K
      refine norm_ (a' := ?_) ?_ ?_
      rotate_left
      ·
       show Act.put _ (some 256) _ = _
       simp only [Act.put, List.setIfInBounds_toArray, List.set_cons_zero, List.set_cons_succ, i64_w, i32_w]
       rfl
      refine Sq.pv 36 257 137438953471 HT_ ?_
      refine Sq.pv 37 258 274877906943 HT_ ?_
      refine done_ (done_of HT_.out (by kernel_rfl)) ?_
      go_wp2
      go_roundw
      case rel => exact ⟨k + 1, by omega, by rw [HWN.out], by go_num, ⟨fun j hj => by rcases Nat.lt_succ_iff_lt_or_eq.1 hj with h | rfl; exact HA.out j h; exact hjk⟩, B3, ⟨(by first | exact HB.out | exact pw_below_drewN HB.out _)⟩⟩
      case measure => simp [intOf]; omega
    obtain ⟨fv, hfv⟩ : ∃ x, x = fitsB At a1_ := ⟨_, rfl⟩
    have c5q := hfv.symm
    rw [HA1.out] at c5q
    have c5 := hfv.symm
    clear hfv
    cases fv
    ·
     as_aux_lemma =>
      have e0w := e0
      have e1w := e1
      rw [i64_w] at e0w e1w
      refine start_ (n := 38) (S := fun w' => w'.cell? ⟨g7, 0, none⟩ = some (.int .i64 At) ∧ w'.cell? ⟨g7, 1, none⟩ = some (.int .i64 Co) ∧ w'.cell? ⟨g3, 0, none⟩ = some (.slice A0_0 l0_0.length c0_0) ∧ w'.cell? ⟨g3, 1, none⟩ = some (.slice A0_1 l0_1.length c0_1) ∧ w'.cell? ⟨g3, 2, none⟩ = some (.slice (some ad) l0_2.length c0_2) ∧ w'.cell? (ad.add ((wrap64 ((k : Int) - 1)).toNat * 2)) = some (.int .i64 Wa)) (ds := []) (Sq.bm 38 0) (by kernel_rfl) rfl (by kernel_rfl) ⟨z0, z1, s0, s1, s2, (by rw [← i64_w]; exact hp0)⟩ (fun hHeld => ?_); refine with_tabW longcaseref06_Right.tab33 longcaseref06_Right.bits33 (fun HT_ HW_ => ?_)
      replace B3 := Aside0.mk (blk_drew B3.out)
      replace B7 := Aside0.mk (blk_drew B7.out)
      replace HB := Aside0.mk (below_drew1 HB.out)
      clear z0 z1 s0 s1 s2 hp0 e0 e1
      generalize w9.drew = w10 at B3 B7 HB hHeld ⊢
      refine Sq.pv 0 221 1 HT_ ?_
      refine Sq.pv 1 222 3 HT_ ?_
      refine Sq.pv 2 223 7 HT_ ?_
      refine Sq.nv 3 224 15 HT_ ?_
      refine Sq.nv 4 225 31 HT_ ?_
      refine Sq.nv 5 226 63 HT_ ?_
      refine Sq.pv 6 227 127 HT_ ?_
      refine Sq.pv 7 228 255 HT_ ?_
      refine Sq.pv 8 229 511 HT_ ?_
      refine Sq.pv 9 230 1023 HT_ ?_
      refine Sq.pv 10 231 2047 HT_ ?_
      refine Sq.pv 11 232 4095 HT_ ?_
      refine Sq.pv 13 234 12287 HT_ ?_
      refine Sq.pv 15 236 45055 HT_ ?_
      refine Sq.pv 16 237 110591 HT_ ?_
      refine Sq.tv 12 233 114687 HT_ HW_ hHeld ?_
      refine Sq.tv 14 235 131071 HT_ HW_ hHeld ?_
      refine Sq.pv 17 238 262143 HT_ ?_
      refine Sq.pv 18 239 524287 HT_ ?_
      refine Sq.tv 19 240 1048575 HT_ HW_ hHeld ?_
      refine Sq.pv 20 241 2097151 HT_ ?_
      refine Sq.pv 21 242 4194303 HT_ ?_
      refine Sq.pv 22 243 8388607 HT_ ?_
      refine Sq.pv 23 244 16777215 HT_ ?_
      refine Sq.pv 24 245 33554431 HT_ ?_
      refine Sq.pv 25 246 67108863 HT_ ?_
      refine Sq.pv 26 247 134217727 HT_ ?_
      refine Sq.nv 27 248 268435455 HT_ ?_
      refine Sq.nv 28 249 536870911 HT_ ?_
      refine Sq.pv 29 250 1073741823 HT_ ?_
      refine Sq.pv 30 251 2147483647 HT_ ?_
      refine Sq.pv 31 252 4294967295 HT_ ?_
      refine Sq.pv 32 253 8589934591 HT_ ?_
      refine Sq.pv 34 255 25769803775 HT_ ?_
      refine Sq.tv 33 254 34359738367 HT_ HW_ hHeld ?_
      refine one_ (i := 35) (N := some 256) (bm 38 68719476735) rfl rfl (one_of HT_.out (by kernel_rfl)) (by decide) (fun K hK => ?_)
      refine goes_ Try.func25 (by kernel_rfl) rfl #[.int .i64 At, .int .i64 a1] (by rfl) rfl rfl (by (try simp only [List.map_toArray, List.map_cons, List.map_nil]); first | done | rfl) ?_
      refine (rr_fits At a1 (by rw [← HA1.out]; exact H48.out) w10 0).mono ?_
      rintro e w' ⟨rfl, ⟨nd, rfl⟩⟩
      rw [c5q]
      refine ⟨_, rfl, ?_⟩
      refine hK.out _ _ hHeld (fun hHeld => ?_)
      clear hK K
      refine norm_ (a' := ?_) ?_ ?_
      rotate_left
      ·
       show Act.put _ (some 256) _ = _
       simp only [Act.put, List.setIfInBounds_toArray, List.set_cons_zero, List.set_cons_succ, i64_w, i32_w]
       rfl
      refine Sq.pv 36 257 137438953471 HT_ ?_
      refine Sq.pv 37 258 274877906943 HT_ ?_
      refine done_ (done_of HT_.out (by kernel_rfl)) ?_
      go_wp2
      go_ret
      exact ⟨by rw [← HRES.out, rb_leap hlt (HOK.out.trans (by rw [DLE, c5]; simp))]; rfl, (by first | exact HB.out | exact pw_below_drewN HB.out _)⟩
    have hjk : lokB a2 a1_ l0_2 k = true := HOK.out.trans (by rw [DLE, c5]; rfl)
    as_aux_lemma =>
     have e0w := e0
     have e1w := e1
     rw [i64_w] at e0w e1w
     refine start_ (n := 38) (S := fun w' => w'.cell? ⟨g7, 0, none⟩ = some (.int .i64 At) ∧ w'.cell? ⟨g7, 1, none⟩ = some (.int .i64 Co) ∧ w'.cell? ⟨g3, 0, none⟩ = some (.slice A0_0 l0_0.length c0_0) ∧ w'.cell? ⟨g3, 1, none⟩ = some (.slice A0_1 l0_1.length c0_1) ∧ w'.cell? ⟨g3, 2, none⟩ = some (.slice (some ad) l0_2.length c0_2) ∧ w'.cell? (ad.add ((wrap64 ((k : Int) - 1)).toNat * 2)) = some (.int .i64 Wa)) (ds := []) (Sq.bm 38 0) (by kernel_rfl) rfl (by kernel_rfl) ⟨z0, z1, s0, s1, s2, (by rw [← i64_w]; exact hp0)⟩ (fun hHeld => ?_); refine with_tabW longcaseref06_Right.tab33 longcaseref06_Right.bits33 (fun HT_ HW_ => ?_)
     replace B3 := Aside0.mk (blk_drew B3.out)
     replace B7 := Aside0.mk (blk_drew B7.out)
     replace HB := Aside0.mk (below_drew1 HB.out)
     clear z0 z1 s0 s1 s2 hp0 e0 e1
     generalize w9.drew = w10 at B3 B7 HB hHeld ⊢
     refine Sq.pv 0 221 1 HT_ ?_
     refine Sq.pv 1 222 3 HT_ ?_
     refine Sq.pv 2 223 7 HT_ ?_
     refine Sq.nv 3 224 15 HT_ ?_
     refine Sq.nv 4 225 31 HT_ ?_
     refine Sq.nv 5 226 63 HT_ ?_
     refine Sq.pv 6 227 127 HT_ ?_
     refine Sq.pv 7 228 255 HT_ ?_
     refine Sq.pv 8 229 511 HT_ ?_
     refine Sq.pv 9 230 1023 HT_ ?_
     refine Sq.pv 10 231 2047 HT_ ?_
     refine Sq.pv 11 232 4095 HT_ ?_
     refine Sq.pv 13 234 12287 HT_ ?_
     refine Sq.pv 15 236 45055 HT_ ?_
     refine Sq.pv 16 237 110591 HT_ ?_
     refine Sq.tv 12 233 114687 HT_ HW_ hHeld ?_
     refine Sq.tv 14 235 131071 HT_ HW_ hHeld ?_
     refine Sq.pv 17 238 262143 HT_ ?_
     refine Sq.pv 18 239 524287 HT_ ?_
     refine Sq.tv 19 240 1048575 HT_ HW_ hHeld ?_
     refine Sq.pv 20 241 2097151 HT_ ?_
     refine Sq.pv 21 242 4194303 HT_ ?_
     refine Sq.pv 22 243 8388607 HT_ ?_
     refine Sq.pv 23 244 16777215 HT_ ?_
     refine Sq.pv 24 245 33554431 HT_ ?_
     refine Sq.pv 25 246 67108863 HT_ ?_
     refine Sq.pv 26 247 134217727 HT_ ?_
     refine Sq.nv 27 248 268435455 HT_ ?_
     refine Sq.nv 28 249 536870911 HT_ ?_
     refine Sq.pv 29 250 1073741823 HT_ ?_
     refine Sq.pv 30 251 2147483647 HT_ ?_
     refine Sq.pv 31 252 4294967295 HT_ ?_
     refine Sq.pv 32 253 8589934591 HT_ ?_
     refine Sq.pv 34 255 25769803775 HT_ ?_
     refine Sq.tv 33 254 34359738367 HT_ HW_ hHeld ?_
     refine one_ (i := 35) (N := some 256) (bm 38 68719476735) rfl rfl (one_of HT_.out (by kernel_rfl)) (by decide) (fun K hK => ?_)
     refine goes_ Try.func25 (by kernel_rfl) rfl #[.int .i64 At, .int .i64 a1] (by rfl) rfl rfl (by (try simp only [List.map_toArray, List.map_cons, List.map_nil]); first | done | rfl) ?_
     refine (rr_fits At a1 (by rw [← HA1.out]; exact H48.out) w10 0).mono ?_
     rintro e w' ⟨rfl, ⟨nd, rfl⟩⟩
     rw [c5q]
     refine ⟨_, rfl, ?_⟩
     refine hK.out _ _ hHeld (fun hHeld => ?_)
     clear hK K
     refine norm_ (a' := ?_) ?_ ?_
     rotate_left
     ·
      show Act.put _ (some 256) _ = _
      simp only [Act.put, List.setIfInBounds_toArray, List.set_cons_zero, List.set_cons_succ, i64_w, i32_w]
      rfl
     refine Sq.pv 36 257 137438953471 HT_ ?_
     refine Sq.pv 37 258 274877906943 HT_ ?_
     refine done_ (done_of HT_.out (by kernel_rfl)) ?_
     go_wp2
     go_roundw
     case rel => exact ⟨k + 1, by omega, by rw [HWN.out], by go_num, ⟨fun j hj => by rcases Nat.lt_succ_iff_lt_or_eq.1 hj with h | rfl; exact HA.out j h; exact hjk⟩, B3, ⟨(by first | exact HB.out | exact pw_below_drewN HB.out _)⟩⟩
     case measure => simp [intOf]; omega
end Go.Proofs.Ythobnoknbdljgaa.Hand
end
section
namespace Go.Proofs.Ythobnoknbdljgaa.Stub2
open Go.RowKit Go.Proofs.YthobnoknbdljgaaW.PrintWords PB0 Hand
def longcaseref06_Right.f (l0 : List S56) (l1 : List S54) (l2 : List S67) (l3 l4 : List Bool) (a1 a2 : Int) : Option Bool :=
 if encOK l0 l1 l2 l3 l4 ∧ ∀ x ∈ l2, -9223372036854775808 ≤ x.f1 ∧ x.f1 ≤ 9223372036854775807 then some (rightB a1 a2 l0 l1 l2 l3 l4) else none
theorem longcaseref06_Right.calls (A0_0 : Option Addr) (c0_0 : Nat) (l0_0 : List S56) (A0_1 : Option Addr) (c0_1 : Nat) (l0_1 : List S54) (A0_2 : Option Addr) (c0_2 : Nat) (l0_2 : List S67) (A0_3 : Option Addr) (c0_3 : Nat) (l0_3 : List Bool) (A0_4 : Option Addr) (c0_4 : Nat) (l0_4 : List Bool) (a1 a2 : Int) (r : Bool) (w : World) (hr0_0 : Kd.C k56 w A0_0 l0_0.length l0_0) (hc0_0 : l0_0.length ≤ c0_0) (hr0_1 : Kd.C k54 w A0_1 l0_1.length l0_1) (hc0_1 : l0_1.length ≤ c0_1) (hr0_2 : Kd.C k67 w A0_2 l0_2.length l0_2) (hc0_2 : l0_2.length ≤ c0_2) (hr0_3 : Kd.C Kd.bool w A0_3 l0_3.length l0_3) (hc0_3 : l0_3.length ≤ c0_3) (hr0_4 : Kd.C Kd.bool w A0_4 l0_4.length l0_4) (hc0_4 : l0_4.length ≤ c0_4) (h : longcaseref06_Right.f l0_0 l0_1 l0_2 l0_3 l0_4 a1 a2 = some r) :
  Calls Try.prog 13 #[.agg #[.slice A0_0 l0_0.length c0_0, .slice A0_1 l0_1.length c0_1, .slice A0_2 l0_2.length c0_2, .slice A0_3 l0_3.length c0_3, .slice A0_4 l0_4.length c0_4], .int .i64 a1, .int .i64 a2] w fun e w' => e = .returned (.bool r) ∧ Below w.heap.size w w' := by
 unfold longcaseref06_Right.f at h
 split at h
 ·
  rename_i hh
  exact rr_walk A0_0 c0_0 l0_0 A0_1 c0_1 l0_1 A0_2 c0_2 l0_2 A0_3 c0_3 l0_3 A0_4 c0_4 l0_4 a1 a2 r w hr0_0 hc0_0 hr0_1 hc0_1 hr0_2 hc0_2 hr0_3 hc0_3 hr0_4 hc0_4 hh.1 hh.2 (Option.some.inj h)
 ·
  cases h
end Go.Proofs.Ythobnoknbdljgaa.Stub2
end
section
namespace Go.Proofs.Ythobnoknbdljgaa.PD
open Go.Proofs.Ythobnoknbdljgaa.PB0 Sq
open Go.RowKit Go.Proofs.Ythobnoknbdljgaa.Stub2 Go.Proofs.Ythobnoknbdljgaa.Hand Go.Proofs.YthobnoknbdljgaaW.PrintWords Go.Proofs.YthobnoknbdljgaaW.PrintLast Go.Proofs.YthobnoknbdljgaaW.PrintMore
attribute [local go_sem] max2_int min2_int max_two min_two
set_option linter.unusedVariables false
set_option linter.unusedSimpArgs false
theorem info4 : (Try.prog.info? 4).map (fun i => (i.zero, i.size, i.bytes)) = some (some (.bool false), 1, 1) := by kernel_rfl
theorem info54 : (Try.prog.info? 54).map (fun i => (i.zero, i.size, i.bytes)) = some (some (.agg #[(.int .i64 0), (.int .i64 0)]), 2, 16) := by kernel_rfl
theorem info56 : (Try.prog.info? 56).map (fun i => (i.zero, i.size, i.bytes)) = some (some (.agg #[(.int .i64 0), (.bool false), (.string ⟨#[]⟩)]), 3, 32) := by kernel_rfl
theorem info67 : (Try.prog.info? 67).map (fun i => (i.zero, i.size, i.bytes)) = some (some (.agg #[(.int .i64 0), (.int .i64 0)]), 2, 16) := by kernel_rfl
end Go.Proofs.Ythobnoknbdljgaa.PD
end
section
namespace Go.Proofs.Ythobnoknbdljgaa.PD
open Go.Proofs.Ythobnoknbdljgaa.PB0 Sq
open Go.RowKit Go.Proofs.Ythobnoknbdljgaa.Stub2 Go.Proofs.Ythobnoknbdljgaa.Hand Go.Proofs.YthobnoknbdljgaaW.PrintWords Go.Proofs.YthobnoknbdljgaaW.PrintLast Go.Proofs.YthobnoknbdljgaaW.PrintMore
attribute [local go_sem] max2_int min2_int max_two min_two
set_option linter.unusedVariables false
set_option linter.unusedSimpArgs false
def longcaseref05_Right.j0 : Nat → Bool → Int → Int → Int → Int → Int → Int → Int → Option (Bool)
 | 0, _, _, _, _, _, _, _, _ => none
 | k + 1, x30, x102000, x102001, x102002, x102003, x102004, x102005, x102006 => if x30 = true then (some false) else (if x102004 < 0 then (some false) else (if x102004 > 5000 then (some false) else (if x102003 < 0 then (some false) else (if x102003 > 5000 then (some false) else (if x102001 = 0 then (if x102002 = 0 then (some true) else (some (x102002 == x102005))) else (if x102001 = x102005 then (if x102002 = 0 then (some true) else (some (x102002 == x102005))) else (some false)))))))
def longcaseref05_Right.f (k : Nat) (a0_0 : Int) (a0_1 : Int) (a0_2 : Int) (a0_3 : Int) (a0_4 : Int) (a0_5 : Int) (a0_6 : Int) : Option (Bool) := if a0_0 < 1 then (longcaseref05_Right.j0 k true a0_0 a0_1 a0_2 a0_3 a0_4 a0_5 a0_6) else (if a0_0 > 4 then (longcaseref05_Right.j0 k true a0_0 a0_1 a0_2 a0_3 a0_4 a0_5 a0_6) else (if a0_5 < 1 then (longcaseref05_Right.j0 k true a0_0 a0_1 a0_2 a0_3 a0_4 a0_5 a0_6) else (if a0_5 > 256 then (longcaseref05_Right.j0 k true a0_0 a0_1 a0_2 a0_3 a0_4 a0_5 a0_6) else (if a0_6 < 1 then (longcaseref05_Right.j0 k true a0_0 a0_1 a0_2 a0_3 a0_4 a0_5 a0_6) else (longcaseref05_Right.j0 k (decide (a0_6 > 256)) a0_0 a0_1 a0_2 a0_3 a0_4 a0_5 a0_6)))))
set_option maxHeartbeats 8000000 in
set_option maxRecDepth 100000 in
theorem longcaseref05_Right.calls (k : Nat) (a0_0 : Int) (a0_1 : Int) (a0_2 : Int) (a0_3 : Int) (a0_4 : Int) (a0_5 : Int) (a0_6 : Int) (r : Bool) (w : World) (h : longcaseref05_Right.f k a0_0 a0_1 a0_2 a0_3 a0_4 a0_5 a0_6 = some r) :
  Calls Try.prog 42 #[.agg #[.int .i64 a0_0, .int .i64 a0_1, .int .i64 a0_2, .int .i64 a0_3, .int .i64 a0_4, .int .i64 a0_5, .int .i64 a0_6]] w fun e w' => e = .returned (.bool r) ∧ Below w.heap.size w w' := by
 have hu41 := Try.underlying41
 have HB := Aside0.mk (Below.refl w.heap.size w)
 have H : (if a0_0 < 1 then (longcaseref05_Right.j0 k true a0_0 a0_1 a0_2 a0_3 a0_4 a0_5 a0_6) else (if a0_0 > 4 then (longcaseref05_Right.j0 k true a0_0 a0_1 a0_2 a0_3 a0_4 a0_5 a0_6) else (if a0_5 < 1 then (longcaseref05_Right.j0 k true a0_0 a0_1 a0_2 a0_3 a0_4 a0_5 a0_6) else (if a0_5 > 256 then (longcaseref05_Right.j0 k true a0_0 a0_1 a0_2 a0_3 a0_4 a0_5 a0_6) else (if a0_6 < 1 then (longcaseref05_Right.j0 k true a0_0 a0_1 a0_2 a0_3 a0_4 a0_5 a0_6) else (longcaseref05_Right.j0 k (decide (a0_6 > 256)) a0_0 a0_1 a0_2 a0_3 a0_4 a0_5 a0_6)))))) = some r := h
 clear h
 have HC2 := Aside0.mk H
 clear H
 go_enter Try.func42, Try.ntmps42
 go_upto_region 1 with (first | ((with_reducible refine gate_dst (N := 1) rfl ?_); refine box_event ?hg (N := 1) ?hd (cs := #[.int .i64 a0_0, .int .i64 a0_1, .int .i64 a0_2, .int .i64 a0_3, .int .i64 a0_4, .int .i64 a0_5, .int .i64 a0_6]) (t := 41) ?hr ?_; (case hd => rfl); (case hg => rfl); (case hr => first | (go_simp; done) | (go_simp; rfl)); intro gb101 hg w3 hbox hb; have BK101 := Aside0.mk (hbox); have GW101 := Aside0.mk ((by rw [hg]; exact (below_size (Sq.kl HB)) : w.heap.size ≤ gb101)); have GE101 := Aside0.mk ((by rw [hg]; exact (below_size (Sq.kl HB)) : w.heap.size ≤ gb101)); replace HB := Aside0.mk (below_step (Sq.kl HB) hb); clear hb hbox hg))
 (try simp only [Act.put, List.setIfInBounds_toArray, List.set_cons_zero, List.set_cons_succ])
 go_cut [30] (fun v30 wc => ∃ (kq : Nat) (x30_1 : Bool), v30 = .bool x30_1 ∧ Aside0 (longcaseref05_Right.j0 kq x30_1 a0_0 a0_1 a0_2 a0_3 a0_4 a0_5 a0_6 = some r) ∧ Aside0 (kq ≤ k) ∧ Aside0 (wc.heap[gb101]? = some (.cells #[.int .i64 a0_0, .int .i64 a0_1, .int .i64 a0_2, .int .i64 a0_3, .int .i64 a0_4, .int .i64 a0_5, .int .i64 a0_6] 41 (0, 0))) ∧ Aside0 (Below w.heap.size w wc))
 case first =>
  have H := HC2.out
  clear HC2
  by_cases c4 : a0_0 < 1
  ·
   rw [if_pos c4] at H
   have c4b0 : decide (a0_0 < 1) = true := decide_eq_true c4
   clear c4
   (first | rw [c4b0] | rw [c4b1] | (simp only [i64_w, i32_w]; rw [c4b0]) | skip)
   have H' := Aside0.mk H
   clear H
   obtain ⟨hcz5_0, hcz5_1, hcz5_2, hcz5_3, hcz5_4, hcz5_5, hcz5_6⟩ := Sq.c7 BK101
   obtain ⟨hfz5_0, hfz5_1, hfz5_2, hfz5_3, hfz5_4, hfz5_5, hfz5_6⟩ := Sq.z7 BK101
   go_wp2
   go_meet
   case rel => exact ⟨_, (true), (by first | rfl | (simp; done) | (simp [*]; done)), H', ⟨by first | omega | exact Nat.le_refl _⟩, ⟨Sq.kb BK101⟩, ⟨Sq.kl1 HB GE101⟩⟩
  rw [if_neg c4] at H
  have c4b0 : decide (a0_0 < 1) = false := decide_eq_false c4
  clear c4
  (first | rw [c4b0] | rw [c4b1] | (simp only [i64_w, i32_w]; rw [c4b0]) | skip)
  by_cases c6 : a0_0 > 4
  ·
   rw [if_pos c6] at H
   have c6b0 : decide (4 < a0_0) = true := decide_eq_true c6
   clear c6
   have H' := Aside0.mk H
   clear H
   obtain ⟨hcz7_0, hcz7_1, hcz7_2, hcz7_3, hcz7_4, hcz7_5, hcz7_6⟩ := Sq.c7 BK101
   obtain ⟨hfz7_0, hfz7_1, hfz7_2, hfz7_3, hfz7_4, hfz7_5, hfz7_6⟩ := Sq.z7 BK101
   go_wp2
   go_meet
   case rel => exact ⟨_, (true), (by first | rfl | (simp; done) | (simp [*]; done)), H', ⟨by first | omega | exact Nat.le_refl _⟩, ⟨Sq.kb BK101⟩, ⟨Sq.kl1 HB GE101⟩⟩
  rw [if_neg c6] at H
  have c6b0 : decide (4 < a0_0) = false := decide_eq_false c6
  clear c6
  by_cases c8 : a0_5 < 1
  ·
   rw [if_pos c8] at H
   have c8b0 : decide (a0_5 < 1) = true := decide_eq_true c8
   clear c8
   have H' := Aside0.mk H
   clear H
   obtain ⟨hcz9_0, hcz9_1, hcz9_2, hcz9_3, hcz9_4, hcz9_5, hcz9_6⟩ := Sq.c7 BK101
   obtain ⟨hfz9_0, hfz9_1, hfz9_2, hfz9_3, hfz9_4, hfz9_5, hfz9_6⟩ := Sq.z7 BK101
   go_wp2
   go_meet
   case rel => exact ⟨_, (true), (by first | rfl | (simp; done) | (simp [*]; done)), H', ⟨by first | omega | exact Nat.le_refl _⟩, ⟨Sq.kb BK101⟩, ⟨Sq.kl1 HB GE101⟩⟩
  rw [if_neg c8] at H
  have c8b0 : decide (a0_5 < 1) = false := decide_eq_false c8
  clear c8
  by_cases c10 : a0_5 > 256
  ·
   rw [if_pos c10] at H
   have c10b0 : decide (256 < a0_5) = true := decide_eq_true c10
   clear c10
   have H' := Aside0.mk H
   clear H
   obtain ⟨hcz11_0, hcz11_1, hcz11_2, hcz11_3, hcz11_4, hcz11_5, hcz11_6⟩ := Sq.c7 BK101
   obtain ⟨hfz11_0, hfz11_1, hfz11_2, hfz11_3, hfz11_4, hfz11_5, hfz11_6⟩ := Sq.z7 BK101
   go_wp2
   go_meet
   case rel => exact ⟨_, (true), (by first | rfl | (simp; done) | (simp [*]; done)), H', ⟨by first | omega | exact Nat.le_refl _⟩, ⟨Sq.kb BK101⟩, ⟨Sq.kl1 HB GE101⟩⟩
  rw [if_neg c10] at H
  have c10b0 : decide (256 < a0_5) = false := decide_eq_false c10
  clear c10
  by_cases c12 : a0_6 < 1
  ·
   rw [if_pos c12] at H
   have c12b0 : decide (a0_6 < 1) = true := decide_eq_true c12
   clear c12
   have H' := Aside0.mk H
   clear H
   obtain ⟨hcz13_0, hcz13_1, hcz13_2, hcz13_3, hcz13_4, hcz13_5, hcz13_6⟩ := Sq.c7 BK101
   obtain ⟨hfz13_0, hfz13_1, hfz13_2, hfz13_3, hfz13_4, hfz13_5, hfz13_6⟩ := Sq.z7 BK101
   go_wp2
   go_meet
   case rel => exact ⟨_, (true), (by first | rfl | (simp; done) | (simp [*]; done)), H', ⟨by first | omega | exact Nat.le_refl _⟩, ⟨Sq.kb BK101⟩, ⟨Sq.kl1 HB GE101⟩⟩
  rw [if_neg c12] at H
  have c12b0 : decide (a0_6 < 1) = false := decide_eq_false c12
  clear c12
  have H' := Aside0.mk H
  clear H
  obtain ⟨hcz14_0, hcz14_1, hcz14_2, hcz14_3, hcz14_4, hcz14_5, hcz14_6⟩ := Sq.c7 BK101
  obtain ⟨hfz14_0, hfz14_1, hfz14_2, hfz14_3, hfz14_4, hfz14_5, hfz14_6⟩ := Sq.z7 BK101
  go_wp2
  go_meet
  case rel => exact ⟨_, (decide (a0_6 > 256)), (by first | rfl | (simp; done) | (simp [*]; done)), H', ⟨by first | omega | exact Nat.le_refl _⟩, ⟨Sq.kb BK101⟩, ⟨Sq.kl1 HB GE101⟩⟩
 clear HC2
 try clear c1
 try clear p2
 try clear c4
 try clear c4b0
 try clear c6
 try clear c6b0
 try clear c8
 try clear c8b0
 try clear c10
 try clear c10b0
 try clear c12
 try clear c12b0
 try clear hcz11_0
 try clear hcz11_1
 try clear hcz11_2
 try clear hcz11_3
 try clear hcz11_4
 try clear hcz11_5
 try clear hcz11_6
 try clear hcz13_0
 try clear hcz13_1
 try clear hcz13_2
 try clear hcz13_3
 try clear hcz13_4
 try clear hcz13_5
 try clear hcz13_6
 try clear hcz14_0
 try clear hcz14_1
 try clear hcz14_2
 try clear hcz14_3
 try clear hcz14_4
 try clear hcz14_5
 try clear hcz14_6
 try clear hcz5_0
 try clear hcz5_1
 try clear hcz5_2
 try clear hcz5_3
 try clear hcz5_4
 try clear hcz5_5
 try clear hcz5_6
 try clear hcz7_0
 try clear hcz7_1
 try clear hcz7_2
 try clear hcz7_3
 try clear hcz7_4
 try clear hcz7_5
 try clear hcz7_6
 try clear hcz9_0
 try clear hcz9_1
 try clear hcz9_2
 try clear hcz9_3
 try clear hcz9_4
 try clear hcz9_5
 try clear hcz9_6
 try clear hfz11_0
 try clear hfz11_1
 try clear hfz11_2
 try clear hfz11_3
 try clear hfz11_4
 try clear hfz11_5
 try clear hfz11_6
 try clear hfz13_0
 try clear hfz13_1
 try clear hfz13_2
 try clear hfz13_3
 try clear hfz13_4
 try clear hfz13_5
 try clear hfz13_6
 try clear hfz14_0
 try clear hfz14_1
 try clear hfz14_2
 try clear hfz14_3
 try clear hfz14_4
 try clear hfz14_5
 try clear hfz14_6
 try clear hfz5_0
 try clear hfz5_1
 try clear hfz5_2
 try clear hfz5_3
 try clear hfz5_4
 try clear hfz5_5
 try clear hfz5_6
 try clear hfz7_0
 try clear hfz7_1
 try clear hfz7_2
 try clear hfz7_3
 try clear hfz7_4
 try clear hfz7_5
 try clear hfz7_6
 try clear hfz9_0
 try clear hfz9_1
 try clear hfz9_2
 try clear hfz9_3
 try clear hfz9_4
 try clear hfz9_5
 try clear hfz9_6
 obtain ⟨kq, x30_1, rfl, HA, HJ1, BK101, HB⟩ := hcut
 cases kq with
 | zero => exact absurd HA.out (by simp [longcaseref05_Right.j0])
 | succ kj1 =>
  have H := HA.out
  clear HA
  simp only [longcaseref05_Right.j0] at H
  by_cases c15 : x30_1 = true
  ·
   subst c15
   rw [if_pos rfl] at H
   obtain rfl := Option.some.inj H
   go_wp2
   go_ret
   exact ⟨by first | rfl | (simp [errW_none, errW_some] <;> rfl) | (simp [*, errW_none, errW_some] <;> rfl), by repeat (first | (with_reducible first | exact HB.out | apply below_alloc | apply pw_below_drewN | apply below_drew1 | refine below_set ?_ GE101.out) | exact HB.out)⟩
  replace c15 := Bool.eq_false_iff.mpr c15
  subst c15
  rw [if_neg (show ¬ (false = true) by decide)] at H
  by_cases c16 : a0_4 < 0
  ·
   rw [if_pos c16] at H
   have c16b0 : decide (a0_4 < 0) = true := decide_eq_true c16
   clear c16
   obtain rfl := Option.some.inj H
   obtain ⟨hcz17_0, hcz17_1, hcz17_2, hcz17_3, hcz17_4, hcz17_5, hcz17_6⟩ := Sq.c7 BK101
   obtain ⟨hfz17_0, hfz17_1, hfz17_2, hfz17_3, hfz17_4, hfz17_5, hfz17_6⟩ := Sq.z7 BK101
   go_wp2
   go_ret
   exact ⟨by first | rfl | (simp [errW_none, errW_some] <;> rfl) | (simp [*, errW_none, errW_some] <;> rfl), by repeat (first | (with_reducible first | exact HB.out | apply below_alloc | apply pw_below_drewN | apply below_drew1 | refine below_set ?_ GE101.out) | exact HB.out)⟩
  rw [if_neg c16] at H
  have c16b0 : decide (a0_4 < 0) = false := decide_eq_false c16
  clear c16
  by_cases c18 : a0_4 > 5000
  ·
   rw [if_pos c18] at H
   have c18b0 : decide (5000 < a0_4) = true := decide_eq_true c18
   clear c18
   obtain rfl := Option.some.inj H
   obtain ⟨hcz19_0, hcz19_1, hcz19_2, hcz19_3, hcz19_4, hcz19_5, hcz19_6⟩ := Sq.c7 BK101
   obtain ⟨hfz19_0, hfz19_1, hfz19_2, hfz19_3, hfz19_4, hfz19_5, hfz19_6⟩ := Sq.z7 BK101
   go_wp2
   go_ret
   exact ⟨by first | rfl | (simp [errW_none, errW_some] <;> rfl) | (simp [*, errW_none, errW_some] <;> rfl), by repeat (first | (with_reducible first | exact HB.out | apply below_alloc | apply pw_below_drewN | apply below_drew1 | refine below_set ?_ GE101.out) | exact HB.out)⟩
  rw [if_neg c18] at H
  have c18b0 : decide (5000 < a0_4) = false := decide_eq_false c18
  clear c18
  by_cases c20 : a0_3 < 0
  ·
   rw [if_pos c20] at H
   have c20b0 : decide (a0_3 < 0) = true := decide_eq_true c20
   clear c20
   obtain rfl := Option.some.inj H
   obtain ⟨hcz21_0, hcz21_1, hcz21_2, hcz21_3, hcz21_4, hcz21_5, hcz21_6⟩ := Sq.c7 BK101
   obtain ⟨hfz21_0, hfz21_1, hfz21_2, hfz21_3, hfz21_4, hfz21_5, hfz21_6⟩ := Sq.z7 BK101
   go_wp2
   go_ret
   exact ⟨by first | rfl | (simp [errW_none, errW_some] <;> rfl) | (simp [*, errW_none, errW_some] <;> rfl), by repeat (first | (with_reducible first | exact HB.out | apply below_alloc | apply pw_below_drewN | apply below_drew1 | refine below_set ?_ GE101.out) | exact HB.out)⟩
  rw [if_neg c20] at H
  have c20b0 : decide (a0_3 < 0) = false := decide_eq_false c20
  clear c20
  by_cases c22 : a0_3 > 5000
  ·
   rw [if_pos c22] at H
   have c22b0 : decide (5000 < a0_3) = true := decide_eq_true c22
   clear c22
   obtain rfl := Option.some.inj H
   obtain ⟨hcz23_0, hcz23_1, hcz23_2, hcz23_3, hcz23_4, hcz23_5, hcz23_6⟩ := Sq.c7 BK101
   obtain ⟨hfz23_0, hfz23_1, hfz23_2, hfz23_3, hfz23_4, hfz23_5, hfz23_6⟩ := Sq.z7 BK101
   go_wp2
   go_ret
   exact ⟨by first | rfl | (simp [errW_none, errW_some] <;> rfl) | (simp [*, errW_none, errW_some] <;> rfl), by repeat (first | (with_reducible first | exact HB.out | apply below_alloc | apply pw_below_drewN | apply below_drew1 | refine below_set ?_ GE101.out) | exact HB.out)⟩
  rw [if_neg c22] at H
  have c22b0 : decide (5000 < a0_3) = false := decide_eq_false c22
  clear c22
  by_cases c24 : a0_1 = 0
  ·
   rw [if_pos c24] at H
   have c24b0 : (a0_1 == 0) = true := beq_iff_eq.mpr c24
   have c24b1 : (a0_1 != 0) = false := bne_eq_false_iff_eq.mpr c24
   clear c24
   by_cases c25 : a0_2 = 0
   rotate_left
   ·
    rw [if_neg c25] at H
    have c25b0 : (a0_2 == 0) = false := beq_eq_false_iff_ne.mpr c25
    have c25b1 : (a0_2 != 0) = true := bne_iff_ne.mpr c25
    obtain rfl := Option.some.inj H
    obtain ⟨hcz27_0, hcz27_1, hcz27_2, hcz27_3, hcz27_4, hcz27_5, hcz27_6⟩ := Sq.c7 BK101
    obtain ⟨hfz27_0, hfz27_1, hfz27_2, hfz27_3, hfz27_4, hfz27_5, hfz27_6⟩ := Sq.z7 BK101
    go_wp2
    go_ret
    exact ⟨by first | rfl | (simp [errW_none, errW_some] <;> rfl) | (simp [*, errW_none, errW_some] <;> rfl), by repeat (first | (with_reducible first | exact HB.out | apply below_alloc | apply pw_below_drewN | apply below_drew1 | refine below_set ?_ GE101.out) | exact HB.out)⟩
   rw [if_pos c25] at H
   have c25b0 : (a0_2 == 0) = true := beq_iff_eq.mpr c25
   have c25b1 : (a0_2 != 0) = false := bne_eq_false_iff_eq.mpr c25
   clear c25
   obtain rfl := Option.some.inj H
   obtain ⟨hcz26_0, hcz26_1, hcz26_2, hcz26_3, hcz26_4, hcz26_5, hcz26_6⟩ := Sq.c7 BK101
   obtain ⟨hfz26_0, hfz26_1, hfz26_2, hfz26_3, hfz26_4, hfz26_5, hfz26_6⟩ := Sq.z7 BK101
   go_wp2
   go_ret
   exact ⟨by first | rfl | (simp [errW_none, errW_some] <;> rfl) | (simp [*, errW_none, errW_some] <;> rfl), by repeat (first | (with_reducible first | exact HB.out | apply below_alloc | apply pw_below_drewN | apply below_drew1 | refine below_set ?_ GE101.out) | exact HB.out)⟩
  rw [if_neg c24] at H
  have c24b0 : (a0_1 == 0) = false := beq_eq_false_iff_ne.mpr c24
  have c24b1 : (a0_1 != 0) = true := bne_iff_ne.mpr c24
  by_cases c28 : a0_1 = a0_5
  rotate_left
  ·
   rw [if_neg c28] at H
   have c28b0 : (a0_1 == a0_5) = false := beq_eq_false_iff_ne.mpr c28
   have c28b1 : (a0_1 != a0_5) = true := bne_iff_ne.mpr c28
   obtain rfl := Option.some.inj H
   obtain ⟨hcz32_0, hcz32_1, hcz32_2, hcz32_3, hcz32_4, hcz32_5, hcz32_6⟩ := Sq.c7 BK101
   obtain ⟨hfz32_0, hfz32_1, hfz32_2, hfz32_3, hfz32_4, hfz32_5, hfz32_6⟩ := Sq.z7 BK101
   go_wp2
   go_ret
   exact ⟨by first | rfl | (simp [errW_none, errW_some] <;> rfl) | (simp [*, errW_none, errW_some] <;> rfl), by repeat (first | (with_reducible first | exact HB.out | apply below_alloc | apply pw_below_drewN | apply below_drew1 | refine below_set ?_ GE101.out) | exact HB.out)⟩
  rw [if_pos c28] at H
  have c28b0 : (a0_1 == a0_5) = true := beq_iff_eq.mpr c28
  have c28b1 : (a0_1 != a0_5) = false := bne_eq_false_iff_eq.mpr c28
  clear c28
  by_cases c29 : a0_2 = 0
  rotate_left
  ·
   rw [if_neg c29] at H
   have c29b0 : (a0_2 == 0) = false := beq_eq_false_iff_ne.mpr c29
   have c29b1 : (a0_2 != 0) = true := bne_iff_ne.mpr c29
   obtain rfl := Option.some.inj H
   obtain ⟨hcz31_0, hcz31_1, hcz31_2, hcz31_3, hcz31_4, hcz31_5, hcz31_6⟩ := Sq.c7 BK101
   obtain ⟨hfz31_0, hfz31_1, hfz31_2, hfz31_3, hfz31_4, hfz31_5, hfz31_6⟩ := Sq.z7 BK101
   go_wp2
   go_ret
   exact ⟨by first | rfl | (simp [errW_none, errW_some] <;> rfl) | (simp [*, errW_none, errW_some] <;> rfl), by repeat (first | (with_reducible first | exact HB.out | apply below_alloc | apply pw_below_drewN | apply below_drew1 | refine below_set ?_ GE101.out) | exact HB.out)⟩
  rw [if_pos c29] at H
  have c29b0 : (a0_2 == 0) = true := beq_iff_eq.mpr c29
  have c29b1 : (a0_2 != 0) = false := bne_eq_false_iff_eq.mpr c29
  clear c29
  obtain rfl := Option.some.inj H
  obtain ⟨hcz30_0, hcz30_1, hcz30_2, hcz30_3, hcz30_4, hcz30_5, hcz30_6⟩ := Sq.c7 BK101
  obtain ⟨hfz30_0, hfz30_1, hfz30_2, hfz30_3, hfz30_4, hfz30_5, hfz30_6⟩ := Sq.z7 BK101
  go_wp2
  go_ret
  exact ⟨by first | rfl | (simp [errW_none, errW_some] <;> rfl) | (simp [*, errW_none, errW_some] <;> rfl), by repeat (first | (with_reducible first | exact HB.out | apply below_alloc | apply pw_below_drewN | apply below_drew1 | refine below_set ?_ GE101.out) | exact HB.out)⟩
def longcaseref05_Body.f (a0_0 : Int) (a0_1 : Int) (a0_2 : Int) (a0_3 : Int) (a0_4 : Int) (a0_5 : Int) (a0_6 : Int) (a1 : Int) : Option (Int) := some (wrap64 ((wrap64 ((wrap64 ((wrap64 ((wrap64 ((wrap64 (a0_4 * (wrap64 (a1 + 1)))) + (wrap64 (a0_5 * 6)))) + a0_6)) + (wrap64 (a0_3 * (wrap64 (a1 + 4)))))) + a0_2)) + a0_1))
set_option maxHeartbeats 8000000 in
set_option maxRecDepth 100000 in
theorem longcaseref05_Body.calls (a0_0 : Int) (a0_1 : Int) (a0_2 : Int) (a0_3 : Int) (a0_4 : Int) (a0_5 : Int) (a0_6 : Int) (a1 : Int) (r : Int) (w : World) (h : longcaseref05_Body.f a0_0 a0_1 a0_2 a0_3 a0_4 a0_5 a0_6 a1 = some r) :
  Calls Try.prog 43 #[.agg #[.int .i64 a0_0, .int .i64 a0_1, .int .i64 a0_2, .int .i64 a0_3, .int .i64 a0_4, .int .i64 a0_5, .int .i64 a0_6], .int .i64 a1] w fun e w' => e = .returned (.int .i64 r) ∧ Below w.heap.size w w' := by
 have hu41 := Try.underlying41
 have HB := Aside0.mk (Below.refl w.heap.size w)
 have H : (some (wrap64 ((wrap64 ((wrap64 ((wrap64 ((wrap64 ((wrap64 (a0_4 * (wrap64 (a1 + 1)))) + (wrap64 (a0_5 * 6)))) + a0_6)) + (wrap64 (a0_3 * (wrap64 (a1 + 4)))))) + a0_2)) + a0_1))) = some r := h
 clear h
 obtain rfl := Option.some.inj H
 go_enter Try.func43, Try.ntmps43
 go_wp2_with (first | ((with_reducible refine gate_dst (N := 2) rfl ?_); refine box_event ?hg (N := 2) ?hd (cs := #[.int .i64 a0_0, .int .i64 a0_1, .int .i64 a0_2, .int .i64 a0_3, .int .i64 a0_4, .int .i64 a0_5, .int .i64 a0_6]) (t := 41) ?hr ?_; (case hd => rfl); (case hg => rfl); (case hr => first | (go_simp; done) | (go_simp; rfl)); intro gb102 hg w3 hbox hb; have n0_ := Aside0.mk (below_step (Sq.kl HB) hb); have n1_ := Aside0.mk (hbox); have n2_ := Aside0.mk ((by rw [hg]; exact (below_size (Sq.kl HB)) : w.heap.size ≤ gb102)); have n3_ := Aside0.mk ((by rw [hg]; exact (below_size (Sq.kl HB)) : w.heap.size ≤ gb102)); clear HB; have HB := n0_; have BK102 := n1_; have GW102 := n2_; have GE102 := n3_; clear n0_ n1_ n2_ n3_; clear hb hbox hg; have hcz4_0 := kc BK102 0 rfl; have hcz4_1 := kc BK102 1 rfl; have hcz4_2 := kc BK102 2 rfl; have hcz4_3 := kc BK102 3 rfl; have hcz4_4 := kc BK102 4 rfl; have hcz4_5 := kc BK102 5 rfl; have hcz4_6 := kc BK102 6 rfl; have hfz4_0 := blk_frozen BK102.out 0; have hfz4_1 := blk_frozen BK102.out 1; have hfz4_2 := blk_frozen BK102.out 2; have hfz4_3 := blk_frozen BK102.out 3; have hfz4_4 := blk_frozen BK102.out 4; have hfz4_5 := blk_frozen BK102.out 5; have hfz4_6 := blk_frozen BK102.out 6))
 go_ret
 exact ⟨by first | rfl | (simp [errW_none, errW_some] <;> rfl) | (simp [*, errW_none, errW_some] <;> rfl), by repeat (first | (with_reducible first | exact HB.out | apply below_alloc | apply pw_below_drewN | apply below_drew1 | refine below_set ?_ GE102.out) | exact HB.out)⟩
mutual
def longcaseref04_Uint.j0 : Nat → List Int → Int → Int → Bool → Option (Int × Bool)
 | 0, _, _, _, _ => none
 | k + 1, x0, x1, x2, x27 => if x27 = true then (some (0, false)) else (longcaseref04_Uint.l0 k x0 x1 x2 0 0)
def longcaseref04_Uint.l0 : Nat → List Int → Int → Int → Int → Int → Option (Int × Bool)
 | 0, _, _, _, _, _ => none
 | k + 1, x0, x1, x2, x8, x9 => if x9 < x2 then (if 0 ≤ (wrap64 (x1 + x9)) then (if (wrap64 (x1 + x9)) < (x0.length : Int) then (longcaseref04_Uint.l0 k x0 x1 x2 (IntKind.u64.wrap ((IntKind.u64.wrap (x8 * 256)) + (IntKind.u64.wrap (rd x0 (wrap64 (x1 + x9)))))) (wrap64 (x9 + 1))) else (none)) else (none)) else (some (x8, true))
end
def longcaseref04_Uint.f (k : Nat) (l0 : List Int) (a1 : Int) (a2 : Int) : Option (Int × Bool) := if a2 < 1 then (longcaseref04_Uint.j0 k l0 a1 a2 true) else (if a2 > 8 then (longcaseref04_Uint.j0 k l0 a1 a2 true) else (if a1 < 0 then (longcaseref04_Uint.j0 k l0 a1 a2 true) else (longcaseref04_Uint.j0 k l0 a1 a2 (decide (a1 > (wrap64 ((l0.length : Int) - a2)))))))
set_option maxHeartbeats 8000000 in
set_option maxRecDepth 100000 in
theorem longcaseref04_Uint.calls (k : Nat) (A0 : Option Addr) (c0 : Nat) (l0 : List Int) (a1 : Int) (a2 : Int) (r1 : Int) (r2 : Bool) (w : World) (hr0 : Kd.C (Kd.int .u8) w A0 l0.length l0) (hc0 : l0.length ≤ c0) (h : longcaseref04_Uint.f k l0 a1 a2 = some (r1, r2)) :
  Calls Try.prog 55 #[.slice A0 l0.length c0, .int .i64 a1, .int .i64 a2] w fun e w' => e = .returned (.tuple #[.int .u64 r1, .bool r2]) ∧ Drawn0 w w' := by
 have HR0 := Aside0.mk hr0
 have HC0 := Aside0.mk hc0
 clear hr0 hc0
 have H : (if a2 < 1 then (longcaseref04_Uint.j0 k l0 a1 a2 true) else (if a2 > 8 then (longcaseref04_Uint.j0 k l0 a1 a2 true) else (if a1 < 0 then (longcaseref04_Uint.j0 k l0 a1 a2 true) else (longcaseref04_Uint.j0 k l0 a1 a2 (decide (a1 > (wrap64 ((l0.length : Int) - a2)))))))) = some (r1, r2) := h
 clear h
 have HC4 := Aside0.mk H
 clear H
 go_enter Try.func55, Try.ntmps55
 go_upto_region 1 with (fail)
 go_cut [27] (fun v27 wc => ∃ (kq : Nat) (x27_3 : Bool), v27 = .bool x27_3 ∧ Aside0 (longcaseref04_Uint.j0 kq l0 a1 a2 x27_3 = some (r1, r2)) ∧ Aside0 (kq ≤ k) ∧ Drawn0 w wc)
 case first =>
  have H := HC4.out
  clear HC4
  by_cases c5 : a2 < 1
  ·
   rw [if_pos c5] at H
   have c5b0 : decide (a2 < 1) = true := decide_eq_true c5
   clear c5
   (first | rw [c5b0] | rw [c5b1] | (simp only [i64_w, i32_w]; rw [c5b0]) | skip)
   have H' := Aside0.mk H
   clear H
   go_wp2
   go_meet
   case rel => exact ⟨_, (true), (by first | rfl | (simp; done) | (simp [*]; done)), H', ⟨by first | omega | exact Nat.le_refl _⟩, by repeat (first | exact Drawn0.refl _ | apply Drawn0.step)⟩
  rw [if_neg c5] at H
  have c5b0 : decide (a2 < 1) = false := decide_eq_false c5
  clear c5
  (first | rw [c5b0] | rw [c5b1] | (simp only [i64_w, i32_w]; rw [c5b0]) | skip)
  by_cases c6 : a2 > 8
  ·
   rw [if_pos c6] at H
   have c6b0 : decide (8 < a2) = true := decide_eq_true c6
   clear c6
   have H' := Aside0.mk H
   clear H
   go_wp2
   go_meet
   case rel => exact ⟨_, (true), (by first | rfl | (simp; done) | (simp [*]; done)), H', ⟨by first | omega | exact Nat.le_refl _⟩, by repeat (first | exact Drawn0.refl _ | apply Drawn0.step)⟩
  rw [if_neg c6] at H
  have c6b0 : decide (8 < a2) = false := decide_eq_false c6
  clear c6
  by_cases c7 : a1 < 0
  ·
   rw [if_pos c7] at H
   have c7b0 : decide (a1 < 0) = true := decide_eq_true c7
   clear c7
   have H' := Aside0.mk H
   clear H
   go_wp2
   go_meet
   case rel => exact ⟨_, (true), (by first | rfl | (simp; done) | (simp [*]; done)), H', ⟨by first | omega | exact Nat.le_refl _⟩, by repeat (first | exact Drawn0.refl _ | apply Drawn0.step)⟩
  rw [if_neg c7] at H
  have c7b0 : decide (a1 < 0) = false := decide_eq_false c7
  clear c7
  have H' := Aside0.mk H
  clear H
  go_wp2
  go_meet
  case rel => exact ⟨_, (decide (a1 > (wrap64 ((l0.length : Int) - a2)))), (by first | rfl | (simp; done) | (simp [*]; done)), H', ⟨by first | omega | exact Nat.le_refl _⟩, by repeat (first | exact Drawn0.refl _ | apply Drawn0.step)⟩
 clear HC4
 try clear p2
 try clear c5
 try clear c5b0
 try clear c6
 try clear c6b0
 try clear p6
 try clear c7
 try clear c7b0
 obtain ⟨kq, x27_3, rfl, HA, HJ3, ⟨mc3, rfl⟩⟩ := hcut
 cases kq with
 | zero => exact absurd HA.out (by simp [longcaseref04_Uint.j0])
 | succ kj3 =>
  have H := HA.out
  clear HA
  simp only [longcaseref04_Uint.j0] at H
  by_cases c8 : x27_3 = true
  ·
   subst c8
   rw [if_pos rfl] at H
   simp only [Option.some.injEq, Prod.mk.injEq] at H
   obtain ⟨rfl, rfl⟩ := H
   go_wp2
   go_ret2
   exact ⟨by first | rfl | (simp; done) | (simp [*]; done), by repeat (first | exact Drawn0.refl _ | apply Drawn0.step)⟩
  replace c8 := Bool.eq_false_iff.mpr c8
  subst c8
  rw [if_neg (show ¬ (false = true) by decide)] at H
  have H' := Aside0.mk H
  clear H
  go_wp2
  go_loopg [8, 9] kj3 (fun kq v8 v9 w' => ∃ (x8_2 : Int) (x9_2 : Int), v8 = .int .u64 x8_2 ∧ v9 = .int .i64 x9_2 ∧ Aside0 (longcaseref04_Uint.l0 kq l0 a1 a2 x8_2 x9_2 = some (r1, r2)) ∧ Aside0 (kq ≤ kj3) ∧ Drawn0 w w')
  case atStart => exact ⟨(0), (0), (by first | rfl | (simp; done) | (simp [*]; done)), (by first | rfl | (simp; done) | (simp [*]; done)), H', ⟨Nat.le_refl _⟩, by repeat (first | exact Drawn0.refl _ | apply Drawn0.step)⟩
  clear H'
  try clear p2
  try clear c3
  try clear c5
  try clear c5b0
  try clear c6
  try clear c6b0
  try clear p6
  try clear c7
  try clear c7b0
  try clear c8
  try clear p2
  try clear p6
  obtain ⟨x8_2, x9_2, rfl, rfl, HA, HK2, ⟨m2, rfl⟩⟩ := hrel
  cases gk with
  | zero => exact absurd HA.out (by simp [longcaseref04_Uint.l0])
  | succ k2 =>
   have H := HA.out
   clear HA
   simp only [longcaseref04_Uint.l0] at H
   by_cases c9 : x9_2 < a2
   rotate_left
   ·
    rw [if_neg c9] at H
    have c9b0 : decide (x9_2 < a2) = false := decide_eq_false c9
    clear c9
    simp only [Option.some.injEq, Prod.mk.injEq] at H
    obtain ⟨rfl, rfl⟩ := H
    go_wp2
    go_ret2
    exact ⟨by first | rfl | (simp; done) | (simp [*]; done), by repeat (first | exact Drawn0.refl _ | apply Drawn0.step)⟩
   rw [if_pos c9] at H
   have c9b0 : decide (x9_2 < a2) = true := decide_eq_true c9
   clear c9
   obtain ⟨ji10, hji10⟩ : ∃ j_ : Int, (wrap64 (a1 + x9_2)) = j_ := ⟨_, rfl⟩
   replace H : (if 0 ≤ (ji10) then (if (ji10) < (l0.length : Int) then (longcaseref04_Uint.l0 k2 l0 a1 a2 (IntKind.u64.wrap ((IntKind.u64.wrap (x8_2 * 256)) + (IntKind.u64.wrap (rd l0 (ji10))))) (wrap64 (x9_2 + 1))) else (none)) else (none)) = some (r1, r2) := by first | (rw [hji10] at H; exact H) | (simp only [hji10] at H ⊢; exact H)
   have hji10w : (IntKind.i64.wrap (a1 + x9_2)) = ji10 := (i64_w _).trans hji10
   by_cases c11 : 0 ≤ (ji10)
   rotate_left
   ·
    rw [if_neg c11] at H
    exact absurd H (by simp)
   rw [if_pos c11] at H
   have c11b0 : decide (0 ≤ (ji10)) = true := decide_eq_true c11
   clear c11
   by_cases c12 : (ji10) < (l0.length : Int)
   rotate_left
   ·
    rw [if_neg c12] at H
    exact absurd H (by simp)
   rw [if_pos c12] at H
   have c12b0 : decide ((ji10) < (l0.length : Int)) = true := decide_eq_true c12
   clear c12
   have H' := Aside0.mk H
   clear H
   have p103 : 0 ≤ ((ji10) : Int) := of_decide_eq_true (by first | (with_reducible assumption) | assumption)
   have q103 : (ji10) < (l0.length : Int) := of_decide_eq_true (by first | (with_reducible assumption) | assumption)
   obtain ⟨ad103, e103, hx103_0⟩ := Kd.at_int HR0.out (ji10) p103 q103
   cases e103
   replace p103 := eq_true p103
   replace q103 := eq_true q103
   go_wp2
   go_roundg k2
   case measure => have := HJ3.out; have := HK2.out; omega
   case rel => exact ⟨(IntKind.u64.wrap ((IntKind.u64.wrap (x8_2 * 256)) + (IntKind.u64.wrap (rd l0 (ji10))))), (wrap64 (x9_2 + 1)), (by first | rfl | (simp; done) | (simp only [← hji10] <;> (first | rfl | simp)) | (simp [*]; done)), (by first | rfl | (simp; done) | (simp [*]; done)), H', ⟨by have := HJ3.out; have := HK2.out; omega⟩, by repeat (first | exact Drawn0.refl _ | apply Drawn0.step)⟩
def longcaseref04_Int.f (k : Nat) (l0 : List Int) (a1 : Int) (a2 : Int) : Option (Int × Bool) := (longcaseref04_Uint.f k l0 a1 a2).bind fun bt104 => (if bt104.2 = true then (if a2 < 8 then (if 0 ≤ (IntKind.u64.wrap (wrap64 ((wrap64 (8 * a2)) - 1))) then (if bt104.1 ≥ (shl .u64 1 (IntKind.u64.wrap (wrap64 ((wrap64 (8 * a2)) - 1)))) then (if 0 ≤ (IntKind.u64.wrap (wrap64 (8 * a2))) then (some (wrap64 ((wrap64 (bt104.1)) - (shl .i64 1 (IntKind.u64.wrap (wrap64 (8 * a2))))), true)) else (none)) else (some (wrap64 (bt104.1), bt104.2))) else (none)) else (some (wrap64 (bt104.1), bt104.2))) else (some (wrap64 (bt104.1), bt104.2)))
set_option maxHeartbeats 8000000 in
set_option maxRecDepth 100000 in
theorem longcaseref04_Int.calls (k : Nat) (A0 : Option Addr) (c0 : Nat) (l0 : List Int) (a1 : Int) (a2 : Int) (r1 : Int) (r2 : Bool) (w : World) (hr0 : Kd.C (Kd.int .u8) w A0 l0.length l0) (hc0 : l0.length ≤ c0) (h : longcaseref04_Int.f k l0 a1 a2 = some (r1, r2)) :
  Calls Try.prog 44 #[.slice A0 l0.length c0, .int .i64 a1, .int .i64 a2] w fun e w' => e = .returned (.tuple #[.int .i64 r1, .bool r2]) ∧ Drawn0 w w' := by
 have HR0 := Aside0.mk hr0
 have HC0 := Aside0.mk hc0
 clear hr0 hc0
 have H : ((longcaseref04_Uint.f k l0 a1 a2).bind fun bt104 => (if bt104.2 = true then (if a2 < 8 then (if 0 ≤ (IntKind.u64.wrap (wrap64 ((wrap64 (8 * a2)) - 1))) then (if bt104.1 ≥ (shl .u64 1 (IntKind.u64.wrap (wrap64 ((wrap64 (8 * a2)) - 1)))) then (if 0 ≤ (IntKind.u64.wrap (wrap64 (8 * a2))) then (some (wrap64 ((wrap64 (bt104.1)) - (shl .i64 1 (IntKind.u64.wrap (wrap64 (8 * a2))))), true)) else (none)) else (some (wrap64 (bt104.1), bt104.2))) else (none)) else (some (wrap64 (bt104.1), bt104.2))) else (some (wrap64 (bt104.1), bt104.2)))) = some (r1, r2) := h
 clear h
 replace H := Option.bind_eq_some_iff.mp H
 obtain ⟨⟨t104, t105⟩, A40, H⟩ := H
 replace H : (if t105 = true then (if a2 < 8 then (if 0 ≤ (IntKind.u64.wrap (wrap64 ((wrap64 (8 * a2)) - 1))) then (if t104 ≥ (shl .u64 1 (IntKind.u64.wrap (wrap64 ((wrap64 (8 * a2)) - 1)))) then (if 0 ≤ (IntKind.u64.wrap (wrap64 (8 * a2))) then (some (wrap64 ((wrap64 (t104)) - (shl .i64 1 (IntKind.u64.wrap (wrap64 (8 * a2))))), true)) else (none)) else (some (wrap64 (t104), t105))) else (none)) else (some (wrap64 (t104), t105))) else (some (wrap64 (t104), t105))) = some (r1, r2) := H
 have A4 := Aside0.mk A40
 clear A40
 by_cases c5 : t105 = true
 rotate_left
 ·
  replace c5 := Bool.eq_false_iff.mpr c5
  subst c5
  rw [if_neg (show ¬ (false = true) by decide)] at H
  simp only [Option.some.injEq, Prod.mk.injEq] at H
  obtain ⟨rfl, rfl⟩ := H
  go_enter Try.func44, Try.ntmps44
  go_wp2_with (first | ((with_reducible refine gate_callee (f := 55) rfl ?_); refine goesL_ (some 14) rfl rfl Try.func55 (by kernel_rfl) rfl #[.slice A0 l0.length c0, .int .i64 a1, .int .i64 a2] rfl (by (try simp only [List.map_toArray, List.map_cons, List.map_nil]); first | done | rfl | (simp only [List.length_drop, List.length_take]; rfl)) ?_; (with_reducible refine (longcaseref04_Uint.calls k _ _ l0 a1 a2 t104 false _ ?side1 ?side2 A4.out).mono ?_); (case side1 => repeat (first | exact HR0.out | (with_reducible refine Kd.C_alloc ?_ _) | (with_reducible refine Kd.C_drewN ?_ _) | (with_reducible refine Kd.C_drew ?_))); (case side2 => exact HC0.out); rintro e w' ⟨rfl, ⟨nd, rfl⟩⟩; refine ⟨_, rfl, ?_⟩))
  go_ret2
  exact ⟨by first | rfl | (simp; done) | (simp [*]; done), by repeat (first | exact Drawn0.refl _ | apply Drawn0.step)⟩
 subst c5
 rw [if_pos rfl] at H
 by_cases c6 : a2 < 8
 rotate_left
 ·
  rw [if_neg c6] at H
  have c6b0 : decide (a2 < 8) = false := decide_eq_false c6
  clear c6
  simp only [Option.some.injEq, Prod.mk.injEq] at H
  obtain ⟨rfl, rfl⟩ := H
  go_enter Try.func44, Try.ntmps44
  go_wp2_with (first | ((with_reducible refine gate_callee (f := 55) rfl ?_); refine goesL_ (some 14) rfl rfl Try.func55 (by kernel_rfl) rfl #[.slice A0 l0.length c0, .int .i64 a1, .int .i64 a2] rfl (by (try simp only [List.map_toArray, List.map_cons, List.map_nil]); first | done | rfl | (simp only [List.length_drop, List.length_take]; rfl)) ?_; (with_reducible refine (longcaseref04_Uint.calls k _ _ l0 a1 a2 t104 true _ ?side1 ?side2 A4.out).mono ?_); (case side1 => repeat (first | exact HR0.out | (with_reducible refine Kd.C_alloc ?_ _) | (with_reducible refine Kd.C_drewN ?_ _) | (with_reducible refine Kd.C_drew ?_))); (case side2 => exact HC0.out); rintro e w' ⟨rfl, ⟨nd, rfl⟩⟩; refine ⟨_, rfl, ?_⟩))
  go_ret2
  exact ⟨by first | rfl | (simp; done) | (simp [*]; done), by repeat (first | exact Drawn0.refl _ | apply Drawn0.step)⟩
 rw [if_pos c6] at H
 have c6b0 : decide (a2 < 8) = true := decide_eq_true c6
 clear c6
 obtain ⟨ji7, hji7⟩ : ∃ j_ : Int, (IntKind.u64.wrap (wrap64 ((wrap64 (8 * a2)) - 1))) = j_ := ⟨_, rfl⟩
 replace H : (if 0 ≤ (ji7) then (if t104 ≥ (shl .u64 1 (ji7)) then (if 0 ≤ (IntKind.u64.wrap (wrap64 (8 * a2))) then (some (wrap64 ((wrap64 (t104)) - (shl .i64 1 (IntKind.u64.wrap (wrap64 (8 * a2))))), true)) else (none)) else (some (wrap64 (t104), true))) else (none)) = some (r1, r2) := by first | (rw [hji7] at H; exact H) | (simp only [hji7] at H ⊢; exact H)
 (try rw [hji7] at A4)
 by_cases c8 : 0 ≤ (ji7)
 rotate_left
 ·
  rw [if_neg c8] at H
  exact absurd H (by simp)
 rw [if_pos c8] at H
 have c8b0 := eq_true c8
 have c8b1 : decide (0 ≤ (ji7)) = true := decide_eq_true c8
 clear c8
 obtain ⟨ji9, hji9⟩ : ∃ j_ : Int, (shl .u64 1 (ji7)) = j_ := ⟨_, rfl⟩
 replace H : (if t104 ≥ (ji9) then (if 0 ≤ (IntKind.u64.wrap (wrap64 (8 * a2))) then (some (wrap64 ((wrap64 (t104)) - (shl .i64 1 (IntKind.u64.wrap (wrap64 (8 * a2))))), true)) else (none)) else (some (wrap64 (t104), true))) = some (r1, r2) := by first | (rw [hji9] at H; exact H) | (simp only [hji9] at H ⊢; exact H)
 (try rw [hji9] at A4)
 have hji9_ : (IntKind.u64.wrap (1 * 2 ^ min (ji7).toNat 64)) = ji9 := hji9
 have hji9z : (ji7) ≤ 64 → (IntKind.u64.wrap (1 * 2 ^ (ji7).toNat)) = ji9 := shl_small hji9
 have hji9u : (IntKind.u64.wrap (2 ^ min (ji7).toNat 64)) = ji9 := by have h_ := hji9_; rw [Int.one_mul] at h_; exact h_
 have hji9v : (ji7) ≤ 64 → (IntKind.u64.wrap (2 ^ (ji7).toNat)) = ji9 := fun hle_ => by have h_ := hji9z hle_; rw [Int.one_mul] at h_; exact h_
 by_cases c10 : t104 ≥ (ji9)
 rotate_left
 ·
  rw [if_neg c10] at H
  have c10b0 : decide ((ji9) ≤ t104) = false := decide_eq_false c10
  clear c10
  simp only [Option.some.injEq, Prod.mk.injEq] at H
  obtain ⟨rfl, rfl⟩ := H
  go_enter Try.func44, Try.ntmps44
  go_wp2_with (first | ((with_reducible refine gate_callee (f := 55) rfl ?_); refine goesL_ (some 14) rfl rfl Try.func55 (by kernel_rfl) rfl #[.slice A0 l0.length c0, .int .i64 a1, .int .i64 a2] rfl (by (try simp only [List.map_toArray, List.map_cons, List.map_nil]); first | done | rfl | (simp only [List.length_drop, List.length_take]; rfl)) ?_; (with_reducible refine (longcaseref04_Uint.calls k _ _ l0 a1 a2 t104 true _ ?side1 ?side2 A4.out).mono ?_); (case side1 => repeat (first | exact HR0.out | (with_reducible refine Kd.C_alloc ?_ _) | (with_reducible refine Kd.C_drewN ?_ _) | (with_reducible refine Kd.C_drew ?_))); (case side2 => exact HC0.out); rintro e w' ⟨rfl, ⟨nd, rfl⟩⟩; refine ⟨_, rfl, ?_⟩))
  go_ret2
  exact ⟨by first | rfl | (simp; done) | (simp only [← hji7, ← hji9] <;> (first | rfl | simp)) | (simp [*]; done), by repeat (first | exact Drawn0.refl _ | apply Drawn0.step)⟩
 rw [if_pos c10] at H
 have c10b0 : decide ((ji9) ≤ t104) = true := decide_eq_true c10
 clear c10
 obtain ⟨ji11, hji11⟩ : ∃ j_ : Int, (IntKind.u64.wrap (wrap64 (8 * a2))) = j_ := ⟨_, rfl⟩
 replace H : (if 0 ≤ (ji11) then (some (wrap64 ((wrap64 (t104)) - (shl .i64 1 (ji11))), true)) else (none)) = some (r1, r2) := by first | (rw [hji11] at H; exact H) | (simp only [hji11] at H ⊢; exact H)
 (try rw [hji11] at A4)
 by_cases c12 : 0 ≤ (ji11)
 rotate_left
 ·
  rw [if_neg c12] at H
  exact absurd H (by simp)
 rw [if_pos c12] at H
 have c12b0 := eq_true c12
 have c12b1 : decide (0 ≤ (ji11)) = true := decide_eq_true c12
 clear c12
 obtain ⟨ji13, hji13⟩ : ∃ j_ : Int, (shl .i64 1 (ji11)) = j_ := ⟨_, rfl⟩
 replace H : (some (wrap64 ((wrap64 (t104)) - (ji13)), true)) = some (r1, r2) := by first | (rw [hji13] at H; exact H) | (simp only [hji13] at H ⊢; exact H)
 (try rw [hji13] at A4)
 have hji13_ : (IntKind.i64.wrap (1 * 2 ^ min (ji11).toNat 64)) = ji13 := hji13
 have hji13z : (ji11) ≤ 64 → (IntKind.i64.wrap (1 * 2 ^ (ji11).toNat)) = ji13 := shl_small hji13
 have hji13u : (IntKind.i64.wrap (2 ^ min (ji11).toNat 64)) = ji13 := by have h_ := hji13_; rw [Int.one_mul] at h_; exact h_
 have hji13v : (ji11) ≤ 64 → (IntKind.i64.wrap (2 ^ (ji11).toNat)) = ji13 := fun hle_ => by have h_ := hji13z hle_; rw [Int.one_mul] at h_; exact h_
 have hji13y : (wrap64 (1 * 2 ^ min (ji11).toNat 64)) = ji13 := (i64_w _).symm.trans hji13_
 have hji13x : (ji11) ≤ 64 → (wrap64 (1 * 2 ^ (ji11).toNat)) = ji13 := fun h_ => (i64_w _).symm.trans (hji13z h_)
 simp only [Option.some.injEq, Prod.mk.injEq] at H
 obtain ⟨rfl, rfl⟩ := H
 go_enter Try.func44, Try.ntmps44
 go_wp2_with (first | ((with_reducible refine gate_callee (f := 55) rfl ?_); refine goesL_ (some 14) rfl rfl Try.func55 (by kernel_rfl) rfl #[.slice A0 l0.length c0, .int .i64 a1, .int .i64 a2] rfl (by (try simp only [List.map_toArray, List.map_cons, List.map_nil]); first | done | rfl | (simp only [List.length_drop, List.length_take]; rfl)) ?_; (with_reducible refine (longcaseref04_Uint.calls k _ _ l0 a1 a2 t104 true _ ?side1 ?side2 A4.out).mono ?_); (case side1 => repeat (first | exact HR0.out | (with_reducible refine Kd.C_alloc ?_ _) | (with_reducible refine Kd.C_drewN ?_ _) | (with_reducible refine Kd.C_drew ?_))); (case side2 => exact HC0.out); rintro e w' ⟨rfl, ⟨nd, rfl⟩⟩; refine ⟨_, rfl, ?_⟩))
 go_ret2
 exact ⟨by first | rfl | (simp; done) | (simp only [← hji7, ← hji9, ← hji11, ← hji13] <;> (first | rfl | simp)) | (simp [*]; done), by repeat (first | exact Drawn0.refl _ | apply Drawn0.step)⟩
end Go.Proofs.Ythobnoknbdljgaa.PD
end
section
namespace Go.Proofs.Ythobnoknbdljgaa.PD
open Go.Proofs.Ythobnoknbdljgaa.PB0 Sq
open Go.RowKit Go.Proofs.Ythobnoknbdljgaa.Stub2 Go.Proofs.Ythobnoknbdljgaa.Hand Go.Proofs.YthobnoknbdljgaaW.PrintWords Go.Proofs.YthobnoknbdljgaaW.PrintLast Go.Proofs.YthobnoknbdljgaaW.PrintMore
attribute [local go_sem] max2_int min2_int max_two min_two
set_option linter.unusedVariables false
set_option linter.unusedSimpArgs false
def longcaseref04_Name.l0 : Nat → List Int → Int → Int → Option (ByteArray × Bool)
 | 0, _, _, _ => none
 | k + 1, x0, x1, x6 => if x6 < (x0.length : Int) then (if 0 ≤ x6 then (if (rd x0 x6) = 0 then (if 0 ≤ x1 then (if x1 ≤ x6 then (if x6 ≤ (x0.length : Int) then (some (strOfNums ((x0.take (x6 : Int).toNat).drop (x1 : Int).toNat), true)) else (none)) else (none)) else (none)) else (longcaseref04_Name.l0 k x0 x1 (wrap64 (x6 + 1)))) else (none)) else (some ((⟨#[]⟩ : ByteArray), false))
def longcaseref04_Name.f (k : Nat) (l0 : List Int) (a1 : Int) : Option (ByteArray × Bool) := if a1 < 0 then (some ((⟨#[]⟩ : ByteArray), false)) else (longcaseref04_Name.l0 k l0 a1 a1)
set_option maxHeartbeats 8000000 in
set_option maxRecDepth 100000 in
theorem longcaseref04_Name.calls (k : Nat) (A0 : Option Addr) (c0 : Nat) (l0 : List Int) (a1 : Int) (r1 : ByteArray) (r2 : Bool) (w : World) (hr0 : Kd.C (Kd.int .u8) w A0 l0.length l0) (hc0 : l0.length ≤ c0) (h : longcaseref04_Name.f k l0 a1 = some (r1, r2)) :
  Calls Try.prog 45 #[.slice A0 l0.length c0, .int .i64 a1] w fun e w' => e = .returned (.tuple #[.string r1, .bool r2]) ∧ Drawn0 w w' := by
 have HR0 := Aside0.mk hr0
 have HC0 := Aside0.mk hc0
 clear hr0 hc0
 have H : (if a1 < 0 then (some ((⟨#[]⟩ : ByteArray), false)) else (longcaseref04_Name.l0 k l0 a1 a1)) = some (r1, r2) := h
 clear h
 by_cases c3 : a1 < 0
 ·
  rw [if_pos c3] at H
  have c3b0 : decide (a1 < 0) = true := decide_eq_true c3
  clear c3
  simp only [Option.some.injEq, Prod.mk.injEq] at H
  obtain ⟨rfl, rfl⟩ := H
  go_enter Try.func45, Try.ntmps45
  go_wp2
  go_ret2
  exact ⟨by first | rfl | (simp; done) | (simp [*]; done), by repeat (first | exact Drawn0.refl _ | apply Drawn0.step)⟩
 rw [if_neg c3] at H
 have c3b0 : decide (a1 < 0) = false := decide_eq_false c3
 clear c3
 have H' := Aside0.mk H
 clear H
 go_enter Try.func45, Try.ntmps45
 go_wp2
 go_loopg [6] k (fun kq v6 w' => ∃ (x6_1 : Int), v6 = .int .i64 x6_1 ∧ Aside0 (longcaseref04_Name.l0 kq l0 a1 x6_1 = some (r1, r2)) ∧ Aside0 (kq ≤ k) ∧ Drawn0 w w')
 case atStart => exact ⟨(a1), (by first | rfl | (simp; done) | (simp [*]; done)), H', ⟨Nat.le_refl _⟩, by repeat (first | exact Drawn0.refl _ | apply Drawn0.step)⟩
 clear H'
 try clear p2
 try clear c3
 try clear c3b0
 obtain ⟨x6_1, rfl, HA, HK1, ⟨m1, rfl⟩⟩ := hrel
 cases gk with
 | zero => exact absurd HA.out (by simp [longcaseref04_Name.l0])
 | succ k1 =>
  have H := HA.out
  clear HA
  simp only [longcaseref04_Name.l0] at H
  by_cases c4 : x6_1 < (l0.length : Int)
  rotate_left
  ·
   rw [if_neg c4] at H
   have c4b0 : decide (x6_1 < (l0.length : Int)) = false := decide_eq_false c4
   clear c4
   simp only [Option.some.injEq, Prod.mk.injEq] at H
   obtain ⟨rfl, rfl⟩ := H
   go_wp2
   go_ret2
   exact ⟨by first | rfl | (simp; done) | (simp [*]; done), by repeat (first | exact Drawn0.refl _ | apply Drawn0.step)⟩
  rw [if_pos c4] at H
  have c4b0 : decide (x6_1 < (l0.length : Int)) = true := decide_eq_true c4
  clear c4
  by_cases c5 : 0 ≤ x6_1
  rotate_left
  ·
   rw [if_neg c5] at H
   exact absurd H (by simp)
  rw [if_pos c5] at H
  have c5b0 : decide (0 ≤ x6_1) = true := decide_eq_true c5
  clear c5
  by_cases c6 : (rd l0 x6_1) = 0
  rotate_left
  ·
   rw [if_neg c6] at H
   have c6b0 : ((rd l0 x6_1) == 0) = false := beq_eq_false_iff_ne.mpr c6
   have c6b1 : ((rd l0 x6_1) != 0) = true := bne_iff_ne.mpr c6
   have H' := Aside0.mk H
   clear H
   have p106 : 0 ≤ (x6_1 : Int) := of_decide_eq_true (by first | (with_reducible assumption) | assumption)
   have q106 : x6_1 < (l0.length : Int) := of_decide_eq_true (by first | (with_reducible assumption) | assumption)
   obtain ⟨ad106, e106, hx106_0⟩ := Kd.at_int HR0.out x6_1 p106 q106
   cases e106
   replace p106 := eq_true p106
   replace q106 := eq_true q106
   go_wp2
   go_roundg k1
   case measure => have := HK1.out; omega
   case rel => exact ⟨(wrap64 (x6_1 + 1)), (by first | rfl | (simp; done) | (simp [*]; done)), H', ⟨by have := HK1.out; omega⟩, by repeat (first | exact Drawn0.refl _ | apply Drawn0.step)⟩
  rw [if_pos c6] at H
  have c6b0 : ((rd l0 x6_1) == 0) = true := beq_iff_eq.mpr c6
  have c6b1 : ((rd l0 x6_1) != 0) = false := bne_eq_false_iff_eq.mpr c6
  clear c6
  by_cases c7 : 0 ≤ a1
  rotate_left
  ·
   rw [if_neg c7] at H
   exact absurd H (by simp)
  rw [if_pos c7] at H
  have c7b0 := eq_true c7
  have c7b1 : decide (0 ≤ a1) = true := decide_eq_true c7
  clear c7
  by_cases c8 : a1 ≤ x6_1
  rotate_left
  ·
   rw [if_neg c8] at H
   exact absurd H (by simp)
  rw [if_pos c8] at H
  have c8b0 := eq_true c8
  have c8b1 : decide (a1 ≤ x6_1) = true := decide_eq_true c8
  clear c8
  by_cases c9 : x6_1 ≤ (l0.length : Int)
  rotate_left
  ·
   rw [if_neg c9] at H
   exact absurd H (by simp)
  rw [if_pos c9] at H
  have c9b0 := eq_true c9
  have c9b1 : decide (x6_1 ≤ (l0.length : Int)) = true := decide_eq_true c9
  clear c9
  simp only [Option.some.injEq, Prod.mk.injEq] at H
  obtain ⟨rfl, rfl⟩ := H
  have p106 : 0 ≤ (x6_1 : Int) := of_decide_eq_true (by first | (with_reducible assumption) | assumption)
  have q106 : x6_1 < (l0.length : Int) := of_decide_eq_true (by first | (with_reducible assumption) | assumption)
  obtain ⟨ad106, e106, hx106_0⟩ := Kd.at_int HR0.out x6_1 p106 q106
  cases e106
  replace p106 := eq_true p106
  replace q106 := eq_true q106
  obtain ⟨i010, hi010, _, hsz10, _⟩ := info_parts info5
  obtain ⟨A10, hcut10, hA10, hC10⟩ := print_mid_of (P := Try.prog) (Value.int .u8) 0 33 5 .i64 .i64 Try.underlying33 hi010 hsz10 (some ad106) c0 l0 a1 x6_1 (of_decide_eq_true (by first | (with_reducible assumption) | assumption)) (by first | omega | exact of_decide_eq_true (by first | (with_reducible assumption) | assumption)) (of_decide_eq_true (by first | (with_reducible assumption) | assumption)) HC0.out
  have HR107 := Aside0.mk (Kd.C_of_reads (h1 := fun _ => rfl) (hA10 _ (Kd.reads_of_C HR0.out)))
  have HC107 := Aside0.mk hC10
  clear hA10 hC10 hi010 hsz10
  have h_ln : (List.drop a1.toNat (List.take x6_1.toNat l0)).length = x6_1.toNat - a1.toNat := by rw [List.length_drop, List.length_take]; have h_ := of_eq_true q106; omega
  have hcv11 : ∀ m_, Sem.run Try.prog (convert 33 9 (Value.slice A10 (x6_1.toNat - a1.toNat) (c0 - a1.toNat))) (w.drewN m_) = Result.ok (Value.string (strOfNums (List.drop a1.toNat (List.take x6_1.toNat l0)))) (w.drewN m_) := fun m_ => by rw [← h_ln]; exact Kd.C_string (P := Try.prog) (A := A10) (c := (c0 - a1.toNat)) Try.underlying33 Try.underlying5 Try.underlying9 (Kd.C_below HR107.out (pw_below_drewN (Below.refl _ _) m_))
  go_wp2
  go_ret2
  exact ⟨by first | rfl | (simp; done) | (simp [*]; done), by repeat (first | exact Drawn0.refl _ | apply Drawn0.step)⟩
end Go.Proofs.Ythobnoknbdljgaa.PD
end
section
namespace Go.Proofs.Ythobnoknbdljgaa
open Go.RowKit Hand PB0 Go.Proofs.YthobnoknbdljgaaW.PrintWords PD
theorem rr_j (k : Nat) (b : Bool) (v ut sd le ti ty ch : Int) (hb : b = false → (1 ≤ v ∧ v ≤ 4) ∧ (1 ≤ ty ∧ ty ≤ 256) ∧ (1 ≤ ch ∧ ch ≤ 256)) (hb' : b = true → ¬ ((1 ≤ v ∧ v ≤ 4) ∧ (1 ≤ ty ∧ ty ≤ 256) ∧ (1 ≤ ch ∧ ch ≤ 256))) :
  longcaseref05_Right.j0 (k + 1) b v ut sd le ti ty ch = some (decide (rightP v ut sd le ti ty ch)) := by
 simp only [longcaseref05_Right.j0]
 by_cases h : rightP v ut sd le ti ty ch
 ·
  rw [decide_eq_true h]
  obtain ⟨h1, h2, h3, h4, h5, h6, h7⟩ := h
  rw [if_neg (fun hc => hb' hc ⟨h1, h2, h3⟩), if_neg (by omega), if_neg (by omega), if_neg (by omega), if_neg (by omega)]
  rcases h6 with h6 | h6 <;> rcases h7 with h7 | h7 <;> simp [h6, h7]
 ·
  rw [decide_eq_false h]
  cases b with
  | true => rw [if_pos rfl]
  | false =>
   obtain ⟨h1, h2, h3⟩ := hb rfl
   rw [if_neg (by simp)]
   split
   ·
    rfl
   split
   ·
    rfl
   split
   ·
    rfl
   split
   ·
    rfl
   have h8 : ¬ ((ut = 0 ∨ ut = ty) ∧ (sd = 0 ∨ sd = ty)) := fun h9 => h ⟨h1, h2, h3, by omega, by omega, h9.1, h9.2⟩
   by_cases a1 : ut = 0 <;> by_cases a2 : ut = ty <;> by_cases a3 : sd = 0 <;> by_cases a4 : sd = ty <;> simp_all
theorem rright5_f (k : Nat) (v ut sd le ti ty ch : Int) : longcaseref05_Right.f (k + 1) v ut sd le ti ty ch = some (decide (rightP v ut sd le ti ty ch)) := by
 unfold longcaseref05_Right.f
 split
 ·
  exact rr_j k _ _ _ _ _ _ _ _ (fun h => by cases h) (fun _ => by omega)
 split
 ·
  exact rr_j k _ _ _ _ _ _ _ _ (fun h => by cases h) (fun _ => by omega)
 split
 ·
  exact rr_j k _ _ _ _ _ _ _ _ (fun h => by cases h) (fun _ => by omega)
 split
 ·
  exact rr_j k _ _ _ _ _ _ _ _ (fun h => by cases h) (fun _ => by omega)
 split
 ·
  exact rr_j k _ _ _ _ _ _ _ _ (fun h => by cases h) (fun _ => by omega)
 ·
  exact rr_j k _ _ _ _ _ _ _ _ (fun h => by have := of_decide_eq_false h; omega) (fun h => by have := of_decide_eq_true h; omega)
theorem rbody_f (m : Nat) (hm : m = 4 ∨ m = 8) (v : Int) (ut sd le ti ty ch : Nat) (h : rightP v ut sd le ti ty ch) : longcaseref05_Body.f v ut sd le ti ty ch m = some ((bodyN m ut sd le ti ty ch : Nat) : Int) := by
 rcases hm with rfl | rfl
 ·
  show longcaseref05_Body.f v ut sd le ti ty ch 4 = _
  exact body_4 v ut sd le ti ty ch h
 ·
  show longcaseref05_Body.f v ut sd le ti ty ch 8 = _
  exact body_8 v ut sd le ti ty ch h
theorem ruint_l (l0 : List Int) (hb : Bytes l0) (a m : Nat) (hm : m ≤ 8) (hlen : l0.length < 1000000000) (h3 : a + m ≤ l0.length) : ∀ (d k i : Nat), d + i = m → d < k → longcaseref04_Uint.l0 k l0 (a : Int) m (bval ((l0.take (a + i)).drop a)) (i : Int) = some (bval ((l0.take (a + m)).drop a), true)
 | 0, k, i, hd, hk => by
  obtain ⟨k, rfl⟩ : ∃ j, k = j + 1 := ⟨k - 1, by omega⟩
  obtain rfl : i = m := by omega
  simp only [longcaseref04_Uint.l0]
  rw [if_neg (by omega)]
 | d + 1, k, i, hd, hk => by
  obtain ⟨k, rfl⟩ : ∃ j, k = j + 1 := ⟨k - 1, by omega⟩
  simp only [longcaseref04_Uint.l0]
  have e1 : wrap64 ((a : Int) + (i : Int)) = ((a + i : Nat) : Int) := by rw [Oct.w64 (by omega) (by omega)]; omega
  have e2 : wrap64 ((i : Int) + 1) = ((i + 1 : Nat) : Int) := by rw [Oct.w64 (by omega) (by omega)]; omega
  have hbd := bval_bd _ ((hb.take (a + i)).drop a)
  have hle : ((l0.take (a + i)).drop a).length = i := by simp; omega
  have hx : 0 ≤ rd l0 ((a + i : Nat) : Int) ∧ rd l0 ((a + i : Nat) : Int) < 256 := by
   have e : rd l0 ((a + i : Nat) : Int) = l0[a + i]'(by omega) := by unfold rd; rw [Int.toNat_natCast, List.getD_eq_getElem?_getD, List.getElem?_eq_getElem (by omega)]; rfl
   rw [e]
   exact hb _ (List.getElem_mem _)
  have hp : (256 : Int) ^ i ≤ 256 ^ 7 := pow_mono' (by omega)
  have h3' : (256 : Int) ^ 7 = 72057594037927936 := by decide +kernel
  rw [hle] at hbd
  have e3 : (l0.take (a + (i + 1))).drop a = (l0.take (a + i)).drop a ++ [rd l0 ((a + i : Nat) : Int)] := by
   rw [← Nat.add_assoc, List.take_succ_eq_append_getElem (by omega), List.drop_append_of_le_length (by simp; omega)]
   congr 2
   unfold rd
   rw [Int.toNat_natCast, List.getD_eq_getElem?_getD, List.getElem?_eq_getElem (by omega)]
   rfl
  rw [if_pos (by omega), e1, if_pos (by omega), if_pos (by omega), e2]
  have e4 : IntKind.u64.wrap (IntKind.u64.wrap (bval ((l0.take (a + i)).drop a) * 256) + IntKind.u64.wrap (rd l0 ((a + i : Nat) : Int))) = bval ((l0.take (a + (i + 1))).drop a) := by
   rw [e3, bval_snoc]
   generalize bval ((l0.take (a + i)).drop a) = B at *
   generalize rd l0 ((a + i : Nat) : Int) = X at *
   rw [IntKind.wrap_u64, IntKind.wrap_u64, IntKind.wrap_u64]
   omega
  rw [e4]
  exact ruint_l l0 hb a m hm hlen h3 d k (i + 1) (by omega) (by omega)
theorem ruint_f (l0 : List Int) (hb : Bytes l0) (a m : Nat) (hm : m = 4 ∨ m = 8) (hlen : l0.length < 1000000000) (h3 : a + m ≤ l0.length) (k : Nat) (hk : 12 ≤ k) : longcaseref04_Uint.f k l0 (a : Int) m = some (bval ((l0.take (a + m)).drop a), true) := by
 obtain ⟨k, rfl⟩ : ∃ j, k = j + 1 := ⟨k - 1, by omega⟩
 unfold longcaseref04_Uint.f
 rw [if_neg (by omega), if_neg (by omega), if_neg (by omega), Oct.w64 (by omega) (by omega), decide_eq_false (by omega)]
 simp only [longcaseref04_Uint.j0]
 rw [if_neg (by decide)]
 have := ruint_l l0 hb a m (by omega) hlen h3 m k 0 (by omega) (by omega)
 simpa [bval] using this
theorem u31 : IntKind.u64.wrap (wrap64 (wrap64 (8 * 4) - 1)) = 31 := by decide +kernel
theorem u32 : IntKind.u64.wrap (wrap64 (8 * 4)) = 32 := by decide +kernel
theorem s31 : shl .u64 1 31 = 2147483648 := by decide +kernel
theorem s32 : shl .i64 1 32 = 4294967296 := by decide +kernel
theorem rint_f (l0 : List Int) (hb : Bytes l0) (a m : Nat) (hm : m = 4 ∨ m = 8) (hlen : l0.length < 1000000000) (h3 : a + m ≤ l0.length) (k : Nat) (hk : 12 ≤ k) : longcaseref04_Int.f k l0 (a : Int) m = some (Oct.sgn m (bval ((l0.take (a + m)).drop a)), true) := by
 have hbd := bval_bd _ ((hb.take (a + m)).drop a)
 have hle : ((l0.take (a + m)).drop a).length = m := by simp; omega
 rw [hle] at hbd
 unfold longcaseref04_Int.f
 rw [ruint_f l0 hb a m hm hlen h3 k hk, Option.bind_some]
 generalize bval ((l0.take (a + m)).drop a) = B at *
 rw [if_pos rfl, Oct.sgn_val m (by omega) (by omega) B hbd.1 hbd.2]
 rcases hm with rfl | rfl
 ·
  rw [Oct.q4] at hbd ⊢
  rw [if_pos (by decide)]
  simp only [Int.cast_ofNat_Int]
  rw [u31, u32, s31, s32, if_pos (by decide)]
  by_cases h : 2147483648 ≤ B
  ·
   rw [if_pos (show B ≥ 2147483648 from h), if_pos (by decide), if_pos (show (4294967296 : Int) ≤ 2 * B by omega)]
   refine congrArg some (congrArg (·, true) ?_)
   unfold wrap64
   omega
  ·
   rw [if_neg (show ¬ B ≥ 2147483648 from h), if_neg (show ¬ (4294967296 : Int) ≤ 2 * B by omega)]
   refine congrArg some (congrArg (·, true) ?_)
   unfold wrap64
   omega
 ·
  rw [Oct.q8] at hbd ⊢
  rw [if_neg (by decide)]
  refine congrArg some (congrArg (·, true) ?_)
  show wrap64 B = _
  unfold wrap64
  split <;> omega
theorem rd_cut (l0 : List Int) (n x : Nat) (h : x < n) : rd l0 (x : Int) = rd ((l0.take n).drop x) 0 := by
 unfold rd
 simp [List.getD_eq_getElem?_getD, List.getElem?_drop, h]
theorem rint_cut (l0 : List Int) (hb : Bytes l0) (hlen : l0.length < 1000000000) (n p m : Nat) (hm : m = 4 ∨ m = 8) (h : p + m ≤ n) (hn : n ≤ l0.length) (k : Nat) (hk : 12 ≤ k) : longcaseref04_Int.f k l0 (p : Int) m = some (numU m ((l0.take n).drop p), true) := by
 have e : ((l0.take n).drop p).take m = (l0.take (p + m)).drop p := by
  rw [List.take_drop, List.take_take, Nat.min_eq_left h]
 unfold numU
 rw [e, uval_bval _ ((hb.take _).drop _) (by rw [List.length_drop, List.length_take]; omega)]
 exact rint_f l0 hb p m hm hlen (by omega) k hk
theorem b8_zero {x : Int} (h0 : 0 ≤ x) (h1 : x < 256) : ((UInt8.ofNat x.toNat) == 0) = (x == 0) := by
 by_cases h : x = 0
 ·
  subst h
  rfl
 ·
  rw [beq_eq_false_iff_ne.2 h, beq_eq_false_iff_ne]
  intro e
  have := congrArg UInt8.toNat e
  simp at this
  omega
theorem rname_l (X : List Int) (hb : Bytes X) (hlen : X.length < 1000000000) (a : Nat) : ∀ (d k i : Nat), i + d = X.length → a ≤ i → d < k →
  longcaseref04_Name.l0 k X (a : Int) (i : Int) = some (if Lib.indexByte (Lib.bytesOf (X.drop i)) 0 < 0 then (ByteArray.empty, false) else (strOfNums ((X.take (i + (Lib.indexByte (Lib.bytesOf (X.drop i)) 0).toNat)).drop a), true))
 | 0, k, i, hd, ha, hk => by
  obtain ⟨k, rfl⟩ : ∃ j, k = j + 1 := ⟨k - 1, by omega⟩
  rw [longcaseref04_Name.l0, if_neg (by omega), List.drop_of_length_le (by omega)]
  rfl
 | d + 1, k, i, hd, ha, hk => by
  obtain ⟨k, rfl⟩ : ∃ j, k = j + 1 := ⟨k - 1, by omega⟩
  have hi : i < X.length := by omega
  have hx := hb _ (List.getElem_mem hi)
  have er : rd X (i : Int) = X[i] := by unfold rd; rw [Int.toNat_natCast, List.getD_eq_getElem?_getD, List.getElem?_eq_getElem hi]; rfl
  have e2 : wrap64 ((i : Int) + 1) = ((i + 1 : Nat) : Int) := by rw [Oct.w64 (by omega) (by omega)]; omega
  have ed : Lib.bytesOf (X.drop i) = UInt8.ofNat X[i].toNat :: Lib.bytesOf (X.drop (i + 1)) := by rw [List.drop_eq_getElem_cons hi]; rfl
  have hg := Lib.indexByte_ge (Lib.bytesOf (X.drop (i + 1))) 0
  rw [longcaseref04_Name.l0, if_pos (by omega), if_pos (by omega), er, ed, Lib.indexByte, b8_zero hx.1 hx.2, e2]
  by_cases h0 : X[i] = 0
  ·
   rw [if_pos h0, if_pos (by omega), if_pos (by omega), if_pos (by omega), if_pos (beq_iff_eq.2 h0), if_neg (by decide)]
   simp
  ·
   rw [if_neg h0, if_neg (show ¬ (X[i] == 0) = true by simpa using h0), rname_l X hb hlen a d k (i + 1) (by omega) (by omega) (by omega)]
   by_cases h1 : Lib.indexByte (Lib.bytesOf (X.drop (i + 1))) 0 = -1
   ·
    rw [h1]
    rfl
   ·
    rw [if_neg (show ¬ (Lib.indexByte (Lib.bytesOf (X.drop (i + 1))) 0 == -1) = true by simpa using h1), if_neg (by omega), if_neg (by omega)]
    have : i + (Lib.indexByte (Lib.bytesOf (X.drop (i + 1))) 0 + 1).toNat = i + 1 + (Lib.indexByte (Lib.bytesOf (X.drop (i + 1))) 0).toNat := by omega
    rw [this]
theorem rname_f (X : List Int) (hb : Bytes X) (hlen : X.length < 1000000000) (a : Nat) (k : Nat) (hk : X.length + 3 ≤ k) : longcaseref04_Name.f k X (a : Int) = some (nameI X (a : Int)) := by
 unfold longcaseref04_Name.f nameI
 rw [if_neg (by omega), if_neg (by omega)]
 by_cases h : a ≤ X.length
 ·
  rw [rname_l X hb hlen a (X.length - a) k a (by omega) (Nat.le_refl _) (by omega), if_neg (show ¬ (a : Int) > (X.length : Int) by omega), Int.toNat_natCast]
  congr 2
  rw [List.drop_take]
  simp
 ·
  obtain ⟨k, rfl⟩ : ∃ j, k = j + 1 := ⟨k - 1, by omega⟩
  rw [longcaseref04_Name.l0, if_neg (by omega), if_pos (by omega)]
  rfl
theorem nameI_cut (l0 : List Int) (n o ch at_ : Nat) (h : o + ch ≤ n) (hn : n ≤ l0.length) : nameI (l0.take (o + ch)) ((o + at_ : Nat) : Int) = nameI (((l0.take n).drop o).take ch) (at_ : Int) := by
 have e1 : (l0.take (o + ch)).drop (o + at_) = (((l0.take n).drop o).take ch).drop at_ := by
  rw [List.take_drop, List.take_take, Nat.min_eq_left h, List.drop_drop]
 have l1 : (l0.take (o + ch)).length = o + ch := by rw [List.length_take]; omega
 have l2 : (((l0.take n).drop o).take ch).length = ch := by simp; omega
 unfold nameI
 rw [l1, l2, Int.toNat_natCast, Int.toNat_natCast, e1]
 by_cases h : at_ > ch
 ·
  rw [if_neg (by omega), if_pos (by omega), if_neg (by omega), if_pos (by omega)]
 ·
  rw [if_neg (show ¬ ((o + at_ : Nat) : Int) < 0 by omega), if_neg (show ¬ ((o + at_ : Nat) : Int) > ((o + ch : Nat) : Int) by omega), if_neg (show ¬ (at_ : Int) < 0 by omega), if_neg (show ¬ (at_ : Int) > (ch : Int) by omega)]
theorem nameI_out (ns : List Int) (a : Nat) (h : ns.length ≤ a) : (nameI ns (a : Int)).2 = false := by
 unfold nameI
 rw [if_neg (by omega)]
 split
 ·
  rfl
 ·
  rw [Int.toNat_natCast, List.drop_of_length_le h]
  rfl
end Go.Proofs.Ythobnoknbdljgaa
end
