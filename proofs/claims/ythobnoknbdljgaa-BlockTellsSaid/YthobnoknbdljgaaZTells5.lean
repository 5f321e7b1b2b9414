/- What the claim needs of its texts, one behind the other (laid by a program of the session's). -/
import Derived.Test.YthobnoknbdljgaaZTells4
section
namespace Go.Proofs.Ythobnoknbdljgaa.Hand
open Go.RowKit Go.Proofs.YthobnoknbdljgaaW.PrintWords Go.Proofs.YthobnoknbdljgaaW.PrintLast Go.Proofs.YthobnoknbdljgaaW.PrintMore PB0 Sq
set_option linter.unusedVariables false
set_option linter.unusedSimpArgs false
set_option maxHeartbeats 24000000 in
set_option maxRecDepth 100000 in
theorem rr_walk (A0_0 : Option Addr) (c0_0 : Nat) (l0_0 : List S56) (A0_1 : Option Addr) (c0_1 : Nat) (l0_1 : List S54) (A0_2 : Option Addr) (c0_2 : Nat) (l0_2 : List S67) (A0_3 : Option Addr) (c0_3 : Nat) (l0_3 : List Bool) (A0_4 : Option Addr) (c0_4 : Nat) (l0_4 : List Bool) (a1 a2 : Int) (r : Bool) (w : World) (hr0_0 : Kd.C k56 w A0_0 l0_0.length l0_0) (hc0_0 : l0_0.length ≤ c0_0) (hr0_1 : Kd.C k54 w A0_1 l0_1.length l0_1) (hc0_1 : l0_1.length ≤ c0_1) (hr0_2 : Kd.C k67 w A0_2 l0_2.length l0_2) (hc0_2 : l0_2.length ≤ c0_2) (hr0_3 : Kd.C Kd.bool w A0_3 l0_3.length l0_3) (hc0_3 : l0_3.length ≤ c0_3) (hr0_4 : Kd.C Kd.bool w A0_4 l0_4.length l0_4) (hc0_4 : l0_4.length ≤ c0_4) (hok : encOK l0_0 l0_1 l0_2 l0_3 l0_4) (hgl : ∀ x ∈ l0_2, -9223372036854775808 ≤ x.f1 ∧ x.f1 ≤ 9223372036854775807) (hr : rightB a1 a2 l0_0 l0_1 l0_2 l0_3 l0_4 = r) :
  Calls Try.prog 13 #[.agg #[.slice A0_0 l0_0.length c0_0, .slice A0_1 l0_1.length c0_1, .slice A0_2 l0_2.length c0_2, .slice A0_3 l0_3.length c0_3, .slice A0_4 l0_4.length c0_4], .int .i64 a1, .int .i64 a2] w fun e w' => e = .returned (.bool r) ∧ Below w.heap.size w w' := by
 obtain ⟨q0, q1, q2, q3, q4, q5⟩ := hok
 have hl0 := Aside0.mk q0
 have hl3 := Aside0.mk q4
 have hcc0 := Aside0.mk hc0_0
 have hl4 := Aside0.mk q5
 have HR0 := Aside0.mk hr0_0
 have HR1 := Aside0.mk hr0_1
 have HR2 := Aside0.mk hr0_2
 have HR3 := Aside0.mk hr0_3
 have HR4 := Aside0.mk hr0_4
 have HRES := Aside0.mk hr
 have HGL := Aside0.mk hgl
 clear hgl hr hr0_0 hr0_1 hr0_2 hr0_3 hr0_4 hc0_0 hc0_1 hc0_2 hc0_3 hc0_4
 have hu31 := Try.underlying31
 have hu56 := Try.underlying56
 have hu54 := Try.underlying54
 have hu67 := Try.underlying67
 have HB := Aside0.mk (Below.refl w.heap.size w)
 go_enter Try.func13, Try.ntmps13
 go_upto_region 2 with ((with_reducible refine gate_dst (N := 3) rfl ?_); refine box_event ?_ (N := 3) ?_ (cs := #[.slice A0_0 l0_0.length c0_0, .slice A0_1 l0_1.length c0_1, .slice A0_2 l0_2.length c0_2, .slice A0_3 l0_3.length c0_3, .slice A0_4 l0_4.length c0_4]) (t := 31) ?_ ?_; (· rfl); (· rfl); (· first | (go_simp; done) | (go_simp; rfl)); intro g3 hg w1 hbox hb; have Bg3 := Aside0.mk hbox; have GEg3 := Aside0.mk (show w.heap.size ≤ g3 by first | omega | (have h_ := below_size HB.out; omega)); clear hbox hg; have n0_ := Aside0.mk (below_step HB.out hb); clear HB; have HB := n0_; clear n0_ hb; obtain ⟨s0, s1, s2, s3, s4⟩ := Sq.c5 Bg3)
 go_cut [62] (fun v62 wc => ∃ b : Bool, v62 = .bool b ∧ Aside0 (b = true → rightB a1 a2 l0_0 l0_1 l0_2 l0_3 l0_4 = false) ∧ Aside0 (b = false → (a1 = 4 ∨ a1 = 8) ∧ 1 ≤ l0_0.length ∧ l0_0.length ≤ 256 ∧ l0_1.length ≤ 5000 ∧ l0_2.length ≤ 5000 ∧ (l0_3.length = 0 ∨ l0_3.length = l0_0.length) ∧ (l0_4.length = 0 ∨ l0_4.length = l0_0.length)) ∧ Aside0 (wc.heap[g3]? = some (.cells #[.slice A0_0 l0_0.length c0_0, .slice A0_1 l0_1.length c0_1, .slice A0_2 l0_2.length c0_2, .slice A0_3 l0_3.length c0_3, .slice A0_4 l0_4.length c0_4] 31 (0, 0))) ∧ Aside0 (Below w.heap.size w wc))
 case first =>
  as_aux_lemma =>
   by_cases c0 : a1 = 4 ∨ a1 = 8
   case neg =>
    have h4 : (a1 == 4) = false := by simpa using fun e => c0 (.inl e)
    have h8 : (a1 == 8) = false := by simpa using fun e => c0 (.inr e)
    have h4n : (a1 != 4) = true := by rw [bne, h4]; rfl
    have h8n : (a1 != 8) = true := by rw [bne, h8]; rfl
    have HC := Aside0.mk c0
    clear c0
    as_aux_lemma => (go_wp2; go_meet; exact ⟨true, rfl, ⟨fun _ => rb_size HC.out⟩, ⟨fun h => Bool.noConfusion h⟩, Bg3, HB⟩)
   rcases c0 with rfl | rfl
   all_goals
    as_aux_lemma =>
     by_cases c1 : l0_0.length < 1
     ·
      have d_ : decide ((l0_0.length : Int) < 1) = true := decide_eq_true (by omega)
      as_aux_lemma => (go_wp2; go_meet; exact ⟨true, rfl, ⟨fun _ => rb_cnt (by omega)⟩, ⟨fun h => Bool.noConfusion h⟩, Bg3, HB⟩)
     have dc1 : decide ((l0_0.length : Int) < 1) = false := decide_eq_false (by omega)
     by_cases c2 : 256 < l0_0.length
     ·
      have d_ : decide (256 < (l0_0.length : Int)) = true := decide_eq_true (by omega)
      as_aux_lemma => (go_wp2; go_meet; exact ⟨true, rfl, ⟨fun _ => rb_cnt (by omega)⟩, ⟨fun h => Bool.noConfusion h⟩, Bg3, HB⟩)
     have dc2 : decide (256 < (l0_0.length : Int)) = false := decide_eq_false (by omega)
     by_cases c3 : 5000 < l0_1.length
     ·
      have d_ : decide (5000 < (l0_1.length : Int)) = true := decide_eq_true (by omega)
      as_aux_lemma => (go_wp2; go_meet; exact ⟨true, rfl, ⟨fun _ => rb_jl c3⟩, ⟨fun h => Bool.noConfusion h⟩, Bg3, HB⟩)
     have dc3 : decide (5000 < (l0_1.length : Int)) = false := decide_eq_false (by omega)
     by_cases c4 : 5000 < l0_2.length
     ·
      have d_ : decide (5000 < (l0_2.length : Int)) = true := decide_eq_true (by omega)
      as_aux_lemma => (go_wp2; go_meet; exact ⟨true, rfl, ⟨fun _ => rb_ll c4⟩, ⟨fun h => Bool.noConfusion h⟩, Bg3, HB⟩)
     have dc4 : decide (5000 < (l0_2.length : Int)) = false := decide_eq_false (by omega)
     by_cases c5 : l0_3.length = 0 ∨ l0_3.length = l0_0.length
     case neg =>
      have d5 : decide (l0_3.length = 0 ∨ l0_3.length = l0_0.length) = false := decide_eq_false c5
      replace d5 := Aside0.mk d5
      go_wp2_with ((go_at_call 23; (with_reducible refine (rr_marks _ _ _ _ _ hl3.out hl0.out _ d5.out).mono ?_); rintro e w2 ⟨rfl, hb⟩; have n0_ := Aside0.mk (blk_below Bg3.out hb); have n1_ := Aside0.mk (below_step HB.out hb); clear Bg3 HB; have Bg3 := n0_; have HB := n1_; clear n0_ n1_ hb; (try clear t0 t1 t2 t3 t4); obtain ⟨t0, t1, t2, t3, t4⟩ := Sq.c5 Bg3; (try dsimp only))); go_meet; exact ⟨true, rfl, ⟨fun _ => rb_cnt (fun q => c5 q.2.2.1)⟩, ⟨fun h => Bool.noConfusion h⟩, Bg3, HB⟩
     have d5 := Aside0.mk (show decide (l0_3.length = 0 ∨ l0_3.length = l0_0.length) = true from decide_eq_true c5)
     by_cases c6 : l0_4.length = 0 ∨ l0_4.length = l0_0.length
     case neg =>
      have d6 : decide (l0_4.length = 0 ∨ l0_4.length = l0_0.length) = false := decide_eq_false c6
      replace d6 := Aside0.mk d6
      go_wp2_with (first | (go_at_call 23; (with_reducible refine (rr_marks _ _ _ _ _ hl3.out hl0.out _ d5.out).mono ?_); rintro e w2 ⟨rfl, hb⟩; have n0_ := Aside0.mk (blk_below Bg3.out hb); have n1_ := Aside0.mk (below_step HB.out hb); clear Bg3 HB; have Bg3 := n0_; have HB := n1_; clear n0_ n1_ hb; (try clear t0 t1 t2 t3 t4); obtain ⟨t0, t1, t2, t3, t4⟩ := Sq.c5 Bg3; (try dsimp only)) | (go_at_call 23; (with_reducible refine (rr_marks _ _ _ _ _ hl4.out hl0.out _ d6.out).mono ?_); rintro e w2 ⟨rfl, hb⟩; have n0_ := Aside0.mk (blk_below Bg3.out hb); have n1_ := Aside0.mk (below_step HB.out hb); clear Bg3 HB; have Bg3 := n0_; have HB := n1_; clear n0_ n1_ hb; (try clear t0 t1 t2 t3 t4); obtain ⟨t0, t1, t2, t3, t4⟩ := Sq.c5 Bg3; (try dsimp only))); go_meet; exact ⟨true, rfl, ⟨fun _ => rb_cnt (fun q => c6 q.2.2.2)⟩, ⟨fun h => Bool.noConfusion h⟩, Bg3, HB⟩
     have d6 := Aside0.mk (show decide (l0_4.length = 0 ∨ l0_4.length = l0_0.length) = true from decide_eq_true c6)
     go_wp2_with (first | (go_at_call 23; (with_reducible refine (rr_marks _ _ _ _ _ hl3.out hl0.out _ d5.out).mono ?_); rintro e w2 ⟨rfl, hb⟩; have n0_ := Aside0.mk (blk_below Bg3.out hb); have n1_ := Aside0.mk (below_step HB.out hb); clear Bg3 HB; have Bg3 := n0_; have HB := n1_; clear n0_ n1_ hb; (try clear t0 t1 t2 t3 t4); obtain ⟨t0, t1, t2, t3, t4⟩ := Sq.c5 Bg3; (try dsimp only)) | (go_at_call 23; (with_reducible refine (rr_marks _ _ _ _ _ hl4.out hl0.out _ d6.out).mono ?_); rintro e w2 ⟨rfl, hb⟩; have n0_ := Aside0.mk (blk_below Bg3.out hb); have n1_ := Aside0.mk (below_step HB.out hb); clear Bg3 HB; have Bg3 := n0_; have HB := n1_; clear n0_ n1_ hb; (try clear t0 t1 t2 t3 t4); obtain ⟨t0, t1, t2, t3, t4⟩ := Sq.c5 Bg3; (try dsimp only)))
     go_meet
     exact ⟨false, rfl, ⟨fun h => Bool.noConfusion h⟩, ⟨fun _ => ⟨by omega, by omega, by omega, by omega, by omega, c5, c6⟩⟩, Bg3, HB⟩
 clear HB Bg3 s0 s1 s2 s3 s4
 obtain ⟨b_, rfl, hb1, hb2, Bg3, HB⟩ := hcut
 have s0 := (blk_cell Bg3.out 0).trans rfl
 clear s0
 cases b_
 case true =>
  have hz := Aside0.mk (hb1.out rfl)
  clear hb1 hb2
  go_wp2; go_ret; exact ⟨by rw [← HRES.out, hz.out]; rfl, HB.out⟩
 obtain ⟨c0, c1, c2, c3, c4, c5, c6⟩ := hb2.out rfl
 clear hb1 hb2
 have H48 := Aside0.mk c0
 obtain ⟨a1_, ha1⟩ : ∃ x, x = a1 := ⟨_, rfl⟩
 have HA1 := Aside0.mk ha1
 rw [← ha1] at HRES H48
 clear ha1 c0
 go_wp2
 go_loopw [8] (fun i wr => ∃ k : Nat, k ≤ l0_0.length ∧ i = .int .i64 k ∧ Aside0 (∀ j, j < k → kokB l0_0 l0_3 l0_4 j = true) ∧ Aside0 (wr.heap[g3]? = some (.cells #[.slice A0_0 l0_0.length c0_0, .slice A0_1 l0_1.length c0_1, .slice A0_2 l0_2.length c0_2, .slice A0_3 l0_3.length c0_3, .slice A0_4 l0_4.length c0_4] 31 (0, 0))) ∧ Aside0 (Below w.heap.size w wr)) (fun i _ => l0_0.length - (intOf i).toNat)
 case atStart => exact ⟨0, by omega, rfl, ⟨fun j hj => absurd hj (Nat.not_lt_zero j)⟩, Bg3, HB⟩
 as_aux_lemma =>
  clear Bg3 HB
  obtain ⟨k, hk, rfl, HA, B3, HB⟩ := hrel
  by_cases hlt : k < l0_0.length
  ·
   have cl : decide ((k : Int) < (l0_0.length : Int)) = true := decide_eq_true (by omega)
   have ck0 : decide (0 ≤ (k : Int)) = true := decide_eq_true (by omega)
   obtain ⟨ad, eA, hx0, hx1, hx2⟩ := at_T56 HR0.out (k : Int) (by omega) (by omega)
   subst eA
   replace hx0 := (HB.out.cell (World.block_lt_of_cell? w _ hx0)).trans hx0
   replace hx1 := (HB.out.cell (World.block_lt_of_cell? w _ hx1)).trans hx1
   replace hx2 := (HB.out.cell (World.block_lt_of_cell? w _ hx2)).trans hx2
   simp only [Int.toNat_natCast] at hx0 hx1 hx2
   obtain ⟨s0, s1, s2, s3, s4⟩ := Sq.c5 B3
   obtain ⟨Of, hOf⟩ : ∃ a, a = (rd_T56 l0_0 (k : Int)).f0 := ⟨_, rfl⟩
   obtain ⟨Ds, hDs⟩ : ∃ a, a = (rd_T56 l0_0 (k : Int)).f1 := ⟨_, rfl⟩
   obtain ⟨Nm, hNm⟩ : ∃ a, a = (rd_T56 l0_0 (k : Int)).f2 := ⟨_, rfl⟩
   rw [← hOf] at hx0
   rw [← hDs] at hx1
   rw [← hNm] at hx2
   have HOf := Aside0.mk hOf
   have HNm := Aside0.mk hNm
   clear hOf hDs hNm
   go_upto_region 8 with ((with_reducible refine gate_dst (N := 9) rfl ?_); refine box_event ?_ (N := 9) ?_ (cs := #[.int .i64 0, .bool false, .string ⟨#[]⟩]) (t := 56) ?_ ?_; (· rfl); (· rfl); (· first | (go_simp; done) | (go_simp; rfl)); intro g9 hg w8 hbox hb; have Bg9 := Aside0.mk hbox; have GEg9 := Aside0.mk (show wr.heap.size ≤ g9 by first | omega | (have h_ := below_size HB.out; omega)); clear hbox hg; have HW8 := Aside0.mk hb; clear hb; obtain ⟨z0, z1, z2⟩ := Sq.c3 Bg9; have y0 := blk_frozen Bg9.out 0; have y1 := blk_frozen Bg9.out 1; have y2 := blk_frozen Bg9.out 2)
   have hne : g3 ≠ g9 := by have := blk_lt B3.out; have := GEg9.out; omega
   have GB9 : Aside0 (w.heap.size ≤ g9) := ⟨by have := HB.out.size; have := GEg9.out; omega⟩
   refine forget_wp (fun wc => Aside0 (wc.heap[g3]? = some (.cells #[.slice (some ad) l0_0.length c0_0, .slice A0_1 l0_1.length c0_1, .slice A0_2 l0_2.length c0_2, .slice A0_3 l0_3.length c0_3, .slice A0_4 l0_4.length c0_4] 31 (0, 0))) ∧ Aside0 (wc.heap[g9]? = some (.cells #[.int .i64 Of, .bool Ds, .string Nm] 56 (0, 0))) ∧ Aside0 (Below w.heap.size w wc)) ⟨⟨blk_far (blk_far (blk_far (blk_below B3.out HW8.out) hne _) hne _) hne _⟩, ⟨(blk_set (blk_set (blk_set Bg9.out 0 _) 1 _) 2 _).trans rfl⟩, ⟨below_set (below_set (below_set (below_step HB.out HW8.out) GB9.out) GB9.out) GB9.out⟩⟩ ?_
   clear Bg9 B3 HB HW8 GEg9 z0 z1 z2 y0 y1 y2 hx0 hx1 hx2 hne GB9 s0 s1 s2 s3 s4
   rintro w9 ⟨B3, B9, HB⟩
   obtain ⟨s0, s1, s2, s3, s4⟩ := Sq.c5 B3
   obtain ⟨z0, z1, z2⟩ := Sq.c3 B9
   by_cases c7 : Of < -2147483647
   ·
    have d_ : decide (Of < -2147483647) = true := decide_eq_true (by omega)
    go_wp2; go_ret; exact ⟨by rw [← HRES.out, rb_kind hlt (by unfold kokB; rw [← HOf.out, decide_eq_true (show Of ≤ -2147483648 by omega)]; rfl)]; rfl, HB.out⟩
   have dc7 : decide (Of < -2147483647) = false := decide_eq_false (by omega)
   by_cases c8 : 2147483647 < Of
   ·
    have d_ : decide (2147483647 < Of) = true := decide_eq_true (by omega)
    go_wp2; go_ret; exact ⟨by rw [← HRES.out, rb_kind hlt (by unfold kokB; rw [← HOf.out, decide_eq_true (show Of > 2147483647 from c8), Bool.not_true, Bool.and_false]; rfl)]; rfl, HB.out⟩
   have dc8 : decide (2147483647 < Of) = false := decide_eq_false (by omega)
   by_cases c9 : 255 < Nm.size
   ·
    have d_ : decide (255 < (Nm.size : Int)) = true := decide_eq_true (by omega)
    go_wp2; go_ret; exact ⟨by rw [← HRES.out, rb_long hlt (by rw [← HNm.out]; exact c9)]; rfl, HB.out⟩
   have dc9 : decide (255 < (Nm.size : Int)) = false := decide_eq_false (by omega)
   go_wp2
   go_loopw [10] (fun i wr => ∃ j : Nat, j ≤ Nm.size ∧ i = .int .i64 j ∧ Aside0 (∀ b ∈ Nm.data.toList.take j, b ≠ 0) ∧ Aside0 (wr.heap[g3]? = some (.cells #[.slice (some ad) l0_0.length c0_0, .slice A0_1 l0_1.length c0_1, .slice A0_2 l0_2.length c0_2, .slice A0_3 l0_3.length c0_3, .slice A0_4 l0_4.length c0_4] 31 (0, 0))) ∧ Aside0 (wr.heap[g9]? = some (.cells #[.int .i64 Of, .bool Ds, .string Nm] 56 (0, 0))) ∧ Aside0 (Below w.heap.size w wr)) (fun i _ => Nm.size - (intOf i).toNat)
   case atStart => exact ⟨0, by omega, rfl, ⟨fun b hb => by simp at hb⟩, B3, B9, HB⟩
   as_aux_lemma =>
    clear B3 B9 HB s0 s1 s2 s3 s4 z0 z1 z2
    obtain ⟨j, hj, rfl, HZ, B3, B9, HB⟩ := hrel
    obtain ⟨z0, z1, z2⟩ := Sq.c3 B9
    by_cases hjl : j < Nm.size
    ·
     have cl2 : decide ((j : Int) < (Nm.size : Int)) = true := decide_eq_true (by omega)
     have cj0 : decide (0 ≤ (j : Int)) = true := decide_eq_true (by omega)
     by_cases cz : Nm[j] = 0
     ·
      have dz : (((Nm[j].toNat : Nat) : Int) == 0) = true := by rw [cz]; rfl
      have HCZ := Aside0.mk (show (0 : UInt8) ∈ Nm.data.toList by rw [← cz]; exact Array.getElem_mem_toList hjl)
      clear cz
      go_wp2; go_ret; exact ⟨by rw [← HRES.out, rb_kind hlt (kok_zero HNm.out HCZ.out)]; rfl, HB.out⟩
     have dz : (((Nm[j].toNat : Nat) : Int) == 0) = false := beq_eq_false_iff_ne.2 (fun e => cz (UInt8.toNat_inj.1 (by have h2 : Nm[j].toNat = 0 := (by omega); exact h2)))
     have HCZ := Aside0.mk cz
     clear cz
     go_wp2
     go_roundw
     case rel => exact ⟨j + 1, by omega, by go_num, ⟨no_more HZ.out hjl HCZ.out⟩, B3, B9, HB⟩
     case measure => simp [intOf]; omega
    have hjn : Nm.size = j := by omega
    have cl2 : decide ((j : Int) < (Nm.size : Int)) = false := decide_eq_false (by omega)
    have HNZ := Aside0.mk (show hasZero Nm = false by exact no_zero (by have h := HZ.out; rw [List.take_of_length_le (by rw [Array.length_toList]; exact Nat.le_of_eq hjn)] at h; exact h))
    clear hjn HZ
    obtain ⟨s0, s1, s2, s3, s4⟩ := Sq.c5 B3
    have HKR := Aside0.mk (show kokB l0_0 l0_3 l0_4 k = markB l0_3 l0_4 k by unfold kokB; rw [← HOf.out, ← HNm.out, decide_eq_false (show ¬ Of ≤ -2147483648 by omega), decide_eq_false (show ¬ Of > 2147483647 by omega), HNZ.out]; rfl)
    clear HNZ HOf HNm
    by_cases cU : 0 < l0_4.length
    rotate_left
    ·
     have dU : decide (0 < (l0_4.length : Int)) = false := decide_eq_false (by omega)
     have HM := Aside0.mk (show markB l0_3 l0_4 k = true by unfold markB; rw [decide_eq_false (show ¬ (l0_4.length : Int) > 0 by omega)]; rfl)
     go_wp2
     go_roundw
     case rel => exact ⟨k + 1, by omega, by go_num, ⟨fun j hj => by rcases Nat.lt_succ_iff_lt_or_eq.1 hj with h | rfl; exact HA.out j h; exact HKR.out.trans HM.out⟩, B3, HB⟩
     case measure => simp [intOf]; omega
    have dU : decide (0 < (l0_4.length : Int)) = true := decide_eq_true (by omega)
    obtain ⟨ad4, e4, hx4⟩ := Kd.at_bool HR4.out (k : Int) (by omega) (by omega)
    replace hx4 := (HB.out.cell (World.block_lt_of_cell? w _ hx4)).trans hx4
    simp only [Int.toNat_natCast] at hx4
    have ck4 : decide ((k : Int) < (l0_4.length : Int)) = true := decide_eq_true (by omega)
    obtain ⟨uv, huv⟩ : ∃ x, x = rdOf false l0_4 (k : Int) := ⟨_, rfl⟩
    rw [← huv] at hx4
    have HUV := Aside0.mk huv
    clear huv
    cases uv
    ·
     have HM := Aside0.mk (show markB l0_3 l0_4 k = true by unfold markB; rw [← HUV.out, Bool.and_false]; rfl)
     go_wp2
     go_roundw
     case rel => exact ⟨k + 1, by omega, by go_num, ⟨fun j hj => by rcases Nat.lt_succ_iff_lt_or_eq.1 hj with h | rfl; exact HA.out j h; exact HKR.out.trans HM.out⟩, B3, HB⟩
     case measure => simp [intOf]; omega
    by_cases cS : l0_3.length = 0
    ·
     have dS : ((l0_3.length : Int) == 0) = true := beq_iff_eq.2 (by omega)
     have HM := Aside0.mk (show markB l0_3 l0_4 k = false by unfold markB; rw [← HUV.out, decide_eq_true (show (l0_4.length : Int) > 0 by omega), decide_eq_true (show (l0_3.length : Int) = 0 by omega)]; rfl)
     go_wp2; go_ret; exact ⟨by rw [← HRES.out, rb_kind hlt (HKR.out.trans HM.out)]; rfl, HB.out⟩
    have dS : ((l0_3.length : Int) == 0) = false := beq_eq_false_iff_ne.2 (by omega)
    obtain ⟨ad3, e3, hx3⟩ := Kd.at_bool HR3.out (k : Int) (by omega) (by omega)
    replace hx3 := (HB.out.cell (World.block_lt_of_cell? w _ hx3)).trans hx3
    simp only [Int.toNat_natCast] at hx3
    have ck3 : decide ((k : Int) < (l0_3.length : Int)) = true := decide_eq_true (by omega)
    obtain ⟨sv, hsv⟩ : ∃ x, x = rdOf false l0_3 (k : Int) := ⟨_, rfl⟩
    rw [← hsv] at hx3
    have HSV := Aside0.mk hsv
    clear hsv
    cases sv
    ·
     have HM := Aside0.mk (show markB l0_3 l0_4 k = false by unfold markB; rw [← HUV.out, ← HSV.out, decide_eq_true (show (l0_4.length : Int) > 0 by omega)]; simp)
     go_wp2; go_ret; exact ⟨by rw [← HRES.out, rb_kind hlt (HKR.out.trans HM.out)]; rfl, HB.out⟩
    have HM := Aside0.mk (show markB l0_3 l0_4 k = true by unfold markB; rw [← HUV.out, ← HSV.out, decide_eq_false (show ¬ (l0_3.length : Int) = 0 by omega)]; simp)
    go_wp2
    go_roundw
    case rel => exact ⟨k + 1, by omega, by go_num, ⟨fun j hj => by rcases Nat.lt_succ_iff_lt_or_eq.1 hj with h | rfl; exact HA.out j h; exact HKR.out.trans HM.out⟩, B3, HB⟩
    case measure => simp [intOf]; omega
  have hkn : k = l0_0.length := by omega
  subst hkn
  have cl : decide ((l0_0.length : Int) < (l0_0.length : Int)) = false := decide_eq_false (by omega)
  have HKA := Aside0.mk HA.out
  clear HA hk hlt
  obtain ⟨s0, s1, s2, s3, s4⟩ := Sq.c5 B3
  obtain ⟨nn, hnn⟩ : ∃ x, x = (nmSt (names l0_0)).1.length := ⟨_, rfl⟩
  have HNN := Aside0.mk hnn
  clear hnn
  go_upto_region 18 with (go_at_call 24; (with_reducible refine (rr_names _ _ l0_0 _ (Kd.C_below HR0.out HB.out) hcc0.out q0 q1).mono ?_); rintro e w2 ⟨A1_, c1_, v1_, rfl, hb⟩; have n0_ := Aside0.mk (blk_below B3.out hb); have n1_ := Aside0.mk (below_step HB.out hb); clear B3 HB; have B3 := n0_; have HB := n1_; clear n0_ n1_ hb; rw [← HNN.out])
  by_cases cN : 256 < nn
  ·
   have d_ : decide (256 < (nn : Int)) = true := decide_eq_true (by omega)
   go_wp2; go_ret; exact ⟨by rw [← HRES.out, rb_names (by rw [← HNN.out]; exact cN)]; rfl, HB.out⟩
  have dcN : decide (256 < (nn : Int)) = false := decide_eq_false (by omega)
  go_wp2
  go_loopw [13] (fun i wr => ∃ k : Nat, k ≤ l0_1.length ∧ i = .int .i64 k ∧ Aside0 (∀ j, j < k → jokB (l0_0.length : Int) a1_ l0_1 j = true) ∧ Aside0 (wr.heap[g3]? = some (.cells #[.slice A0_0 l0_0.length c0_0, .slice A0_1 l0_1.length c0_1, .slice A0_2 l0_2.length c0_2, .slice A0_3 l0_3.length c0_3, .slice A0_4 l0_4.length c0_4] 31 (0, 0))) ∧ Aside0 (Below w.heap.size w wr)) (fun i _ => l0_1.length - (intOf i).toNat)
  case atStart => exact ⟨0, Nat.zero_le _, rfl, ⟨fun j hj => absurd hj (Nat.not_lt_zero j)⟩, B3, HB⟩
  as_aux_lemma =>
   clear B3 HB s0 s1 s2 s3 s4
   obtain ⟨k, hk, rfl, HA, B2, HB⟩ := hrel
   by_cases hlt : k < l0_1.length
   ·
    have cl : decide ((k : Int) < (l0_1.length : Int)) = true := decide_eq_true (by omega)
    have ck0 : decide (0 ≤ (k : Int)) = true := decide_eq_true (by omega)
    obtain ⟨ad, eA, hx0, hx1⟩ := at_T54 HR1.out (k : Int) (by omega) (by omega)
    subst eA
    replace hx0 := (HB.out.cell (World.block_lt_of_cell? w _ hx0)).trans hx0
    replace hx1 := (HB.out.cell (World.block_lt_of_cell? w _ hx1)).trans hx1
    simp only [Int.toNat_natCast] at hx0 hx1
    obtain ⟨r0, r1, r2, r3, r4⟩ := Sq.c5 B2
    go_upto_region 24 with ((with_reducible refine gate_dst (N := 14) rfl ?_); refine box_event ?_ (N := 14) ?_ (cs := #[.int .i64 0, .int .i64 0]) (t := 54) ?_ ?_; (· rfl); (· rfl); (· first | (go_simp; done) | (go_simp; rfl)); intro g6 hg w8 hbox hb; have Bg6 := Aside0.mk hbox; have GEg6 := Aside0.mk (show wr.heap.size ≤ g6 by first | omega | (have h_ := below_size HB.out; omega)); clear hbox hg; have HW8 := Aside0.mk hb; clear hb; obtain ⟨z0, z1⟩ := Sq.c2 Bg6; have y0 := blk_frozen Bg6.out 0; have y1 := blk_frozen Bg6.out 1)
    have hne : g3 ≠ g6 := by have := blk_lt B2.out; have := GEg6.out; omega
    obtain ⟨At, hAt⟩ : ∃ a, a = (rd_T54 l0_1 (k : Int)).f0 := ⟨_, rfl⟩
    obtain ⟨Kd, hKd⟩ : ∃ a, a = (rd_T54 l0_1 (k : Int)).f1 := ⟨_, rfl⟩
    rw [← hAt, ← hKd]
    have GB6 : Aside0 (w.heap.size ≤ g6) := ⟨by have := HB.out.size; have := GEg6.out; omega⟩
    refine forget_wp (fun wc => Aside0 (wc.heap[g3]? = some (.cells #[.slice A0_0 l0_0.length c0_0, .slice (some ad) l0_1.length c0_1, .slice A0_2 l0_2.length c0_2, .slice A0_3 l0_3.length c0_3, .slice A0_4 l0_4.length c0_4] 31 (0, 0))) ∧ Aside0 (wc.heap[g6]? = some (.cells #[.int .i64 At, .int .i64 Kd] 54 (0, 0))) ∧ Aside0 (Below w.heap.size w wc)) ⟨⟨blk_far (blk_far (blk_below B2.out HW8.out) hne _) hne _⟩, ⟨(blk_set (blk_set Bg6.out 0 _) 1 _).trans rfl⟩, ⟨below_set (below_set (below_step HB.out HW8.out) GB6.out) GB6.out⟩⟩ ?_
    have HAt := Aside0.mk hAt
    have HKd := Aside0.mk hKd
    clear Bg6 B2 HB HW8 GEg6 z0 z1 y0 y1 hx0 hx1 hAt hKd hne GB6
    rintro w9 ⟨B2, B6, HB⟩
    obtain ⟨s0, s1⟩ := Sq.c2 B2
    obtain ⟨z0, z1⟩ := Sq.c2 B6
    by_cases c1 : 0 < (k : Int)
    rotate_left
    ·
     have d1 : decide (0 < (k : Int)) = false := decide_eq_false c1
     have d1n : decide (0 < k) = false := decide_eq_false (by omega)
     by_cases c3 : Kd < 0
     ·
      have d3 : decide (Kd < 0) = true := decide_eq_true c3
      have hjk : jokB (l0_0.length : Int) a1_ l0_1 k = false := by unfold jokB; simp only [d1, Bool.false_and, Bool.not_false, Bool.true_and]; simp [← HKd.out, d3]
      clear c3
      as_aux_lemma =>
       refine start_ (n := 32) (S := fun w' => w'.cell? ⟨g6, 0, none⟩ = some (.int .i64 At) ∧ w'.cell? ⟨g6, 1, none⟩ = some (.int .i64 Kd) ∧ w'.cell? ⟨g3, 0, none⟩ = some (.slice A0_0 l0_0.length c0_0) ∧ w'.cell? ⟨g3, 1, none⟩ = some (.slice (some ad) l0_1.length c0_1)) (ds := []) (Sq.bm 32 0) (by kernel_rfl) rfl (by kernel_rfl) ⟨z0, z1, s0, s1⟩ (fun hHeld => ?_); refine with_tabW longcaseref06_Right.tab24 longcaseref06_Right.bits24 (fun HT_ HW_ => ?_)
       replace B2 := Aside0.mk (blk_drew B2.out)
       replace B6 := Aside0.mk (blk_drew B6.out)
       replace HB := Aside0.mk (below_drew1 HB.out)
       clear z0 z1 s0 s1
       generalize w9.drew = w10 at B2 B6 HB hHeld ⊢
       refine Sq.pv 0 145 1 HT_ ?_
       refine Sq.pv 1 146 3 HT_ ?_
       refine Sq.pv 2 147 7 HT_ ?_
       refine Sq.nv 3 148 15 HT_ ?_
       refine Sq.nv 4 149 31 HT_ ?_
       refine Sq.nv 5 150 63 HT_ ?_
       refine Sq.nv 6 151 127 HT_ ?_
       refine Sq.nv 7 152 255 HT_ ?_
       refine Sq.nv 8 153 511 HT_ ?_
       refine Sq.nv 9 154 1023 HT_ ?_
       refine Sq.nv 10 155 2047 HT_ ?_
       refine Sq.nv 11 156 4095 HT_ ?_
       refine Sq.nv 12 157 8191 HT_ ?_
       refine Sq.pv 13 158 16383 HT_ ?_
       refine Sq.pv 14 159 32767 HT_ ?_
       refine Sq.pv 15 160 65535 HT_ ?_
       refine Sq.tv 16 161 131071 HT_ HW_ hHeld ?_
       refine Sq.pv 17 162 262143 HT_ ?_
       refine Sq.pv 18 163 524287 HT_ ?_
       refine Sq.pv 19 164 1048575 HT_ ?_
       refine Sq.nv 20 165 2097151 HT_ ?_
       refine Sq.nv 21 166 4194303 HT_ ?_
       refine Sq.nv 22 167 8388607 HT_ ?_
       refine Sq.nv 23 168 16777215 HT_ ?_
       refine Sq.pv 24 169 33554431 HT_ ?_
       refine Sq.pv 25 170 67108863 HT_ ?_
       refine Sq.nv 26 171 134217727 HT_ ?_
       refine Sq.nv 27 172 268435455 HT_ ?_
       refine Sq.nv 28 173 536870911 HT_ ?_
       refine Sq.nv 29 174 1073741823 HT_ ?_
       refine Sq.nv 30 175 2147483647 HT_ ?_
       refine Sq.pv 31 176 4294967295 HT_ ?_
       refine done_ (done_of HT_.out (by kernel_rfl)) ?_
       go_wp2
       go_ret
       exact ⟨by rw [← HRES.out, rb_jump hlt hjk]; rfl, (by first | exact HB.out | exact pw_below_drewN HB.out _)⟩
     have d3 : decide (Kd < 0) = false := decide_eq_false c3
     by_cases c4 : (l0_0.length : Int) ≤ Kd
     ·
      have d4 : decide ((l0_0.length : Int) ≤ Kd) = true := decide_eq_true c4
      have hjk : jokB (l0_0.length : Int) a1_ l0_1 k = false := by unfold jokB; simp only [d1, Bool.false_and, Bool.not_false, Bool.true_and]; simp [← HKd.out, d3, d4]
      clear c3 c4
      as_aux_lemma =>
       refine start_ (n := 32) (S := fun w' => w'.cell? ⟨g6, 0, none⟩ = some (.int .i64 At) ∧ w'.cell? ⟨g6, 1, none⟩ = some (.int .i64 Kd) ∧ w'.cell? ⟨g3, 0, none⟩ = some (.slice A0_0 l0_0.length c0_0) ∧ w'.cell? ⟨g3, 1, none⟩ = some (.slice (some ad) l0_1.length c0_1)) (ds := []) (Sq.bm 32 0) (by kernel_rfl) rfl (by kernel_rfl) ⟨z0, z1, s0, s1⟩ (fun hHeld => ?_); refine with_tabW longcaseref06_Right.tab24 longcaseref06_Right.bits24 (fun HT_ HW_ => ?_)
       replace B2 := Aside0.mk (blk_drew B2.out)
       replace B6 := Aside0.mk (blk_drew B6.out)
       replace HB := Aside0.mk (below_drew1 HB.out)
       clear z0 z1 s0 s1
       generalize w9.drew = w10 at B2 B6 HB hHeld ⊢
       refine Sq.pv 0 145 1 HT_ ?_
       refine Sq.pv 1 146 3 HT_ ?_
       refine Sq.pv 2 147 7 HT_ ?_
       refine Sq.nv 3 148 15 HT_ ?_
       refine Sq.nv 4 149 31 HT_ ?_
       refine Sq.nv 5 150 63 HT_ ?_
       refine Sq.nv 6 151 127 HT_ ?_
       refine Sq.nv 7 152 255 HT_ ?_
       refine Sq.nv 8 153 511 HT_ ?_
       refine Sq.nv 9 154 1023 HT_ ?_
       refine Sq.nv 10 155 2047 HT_ ?_
       refine Sq.nv 11 156 4095 HT_ ?_
       refine Sq.nv 12 157 8191 HT_ ?_
       refine Sq.pv 13 158 16383 HT_ ?_
       refine Sq.pv 14 159 32767 HT_ ?_
       refine Sq.pv 15 160 65535 HT_ ?_
       refine Sq.tv 16 161 131071 HT_ HW_ hHeld ?_
       refine Sq.pv 17 162 262143 HT_ ?_
       refine Sq.pv 18 163 524287 HT_ ?_
       refine Sq.pv 19 164 1048575 HT_ ?_
       refine Sq.pv 20 165 2097151 HT_ ?_
       refine Sq.pv 22 167 6291455 HT_ ?_
       refine Sq.tv 21 166 8388607 HT_ HW_ hHeld ?_
       refine Sq.pv 23 168 16777215 HT_ ?_
       refine Sq.pv 24 169 33554431 HT_ ?_
       refine Sq.pv 25 170 67108863 HT_ ?_
       refine Sq.nv 26 171 134217727 HT_ ?_
       refine Sq.nv 27 172 268435455 HT_ ?_
       refine Sq.nv 28 173 536870911 HT_ ?_
       refine Sq.nv 29 174 1073741823 HT_ ?_
       refine Sq.nv 30 175 2147483647 HT_ ?_
       refine Sq.pv 31 176 4294967295 HT_ ?_
       refine done_ (done_of HT_.out (by kernel_rfl)) ?_
       go_wp2
       go_ret
       exact ⟨by rw [← HRES.out, rb_jump hlt hjk]; rfl, (by first | exact HB.out | exact pw_below_drewN HB.out _)⟩
     have d4 : decide ((l0_0.length : Int) ≤ Kd) = false := decide_eq_false c4
     obtain ⟨fv, hfv⟩ : ∃ x, x = fitsB At a1_ := ⟨_, rfl⟩
     have c5q := hfv.symm
     rw [HA1.out] at c5q
     have c5 := hfv.symm
     clear hfv
     cases fv
     ·
      have hjk : jokB (l0_0.length : Int) a1_ l0_1 k = false := by unfold jokB; simp only [d1, Bool.false_and, Bool.not_false, Bool.true_and]; simp [← HKd.out, d3, d4, ← HAt.out, c5]
      clear c3 c4
      as_aux_lemma =>
       refine start_ (n := 32) (S := fun w' => w'.cell? ⟨g6, 0, none⟩ = some (.int .i64 At) ∧ w'.cell? ⟨g6, 1, none⟩ = some (.int .i64 Kd) ∧ w'.cell? ⟨g3, 0, none⟩ = some (.slice A0_0 l0_0.length c0_0) ∧ w'.cell? ⟨g3, 1, none⟩ = some (.slice (some ad) l0_1.length c0_1)) (ds := []) (Sq.bm 32 0) (by kernel_rfl) rfl (by kernel_rfl) ⟨z0, z1, s0, s1⟩ (fun hHeld => ?_); refine with_tabW longcaseref06_Right.tab24 longcaseref06_Right.bits24 (fun HT_ HW_ => ?_)
       replace B2 := Aside0.mk (blk_drew B2.out)
       replace B6 := Aside0.mk (blk_drew B6.out)
       replace HB := Aside0.mk (below_drew1 HB.out)
       clear z0 z1 s0 s1
       generalize w9.drew = w10 at B2 B6 HB hHeld ⊢
       refine Sq.pv 0 145 1 HT_ ?_
       refine Sq.pv 1 146 3 HT_ ?_
       refine Sq.pv 2 147 7 HT_ ?_
       refine Sq.nv 3 148 15 HT_ ?_
       refine Sq.nv 4 149 31 HT_ ?_
       refine Sq.nv 5 150 63 HT_ ?_
       refine Sq.nv 6 151 127 HT_ ?_
       refine Sq.nv 7 152 255 HT_ ?_
       refine Sq.nv 8 153 511 HT_ ?_
       refine Sq.nv 9 154 1023 HT_ ?_
       refine Sq.nv 10 155 2047 HT_ ?_
       refine Sq.nv 11 156 4095 HT_ ?_
       refine Sq.nv 12 157 8191 HT_ ?_
       refine Sq.pv 13 158 16383 HT_ ?_
       refine Sq.pv 14 159 32767 HT_ ?_
       refine Sq.pv 15 160 65535 HT_ ?_
       refine Sq.tv 16 161 131071 HT_ HW_ hHeld ?_
       refine Sq.pv 17 162 262143 HT_ ?_
       refine Sq.pv 18 163 524287 HT_ ?_
       refine Sq.pv 19 164 1048575 HT_ ?_
       refine Sq.pv 20 165 2097151 HT_ ?_
       refine Sq.pv 22 167 6291455 HT_ ?_
       refine Sq.tv 21 166 8388607 HT_ HW_ hHeld ?_
       refine Sq.pv 23 168 16777215 HT_ ?_
       refine Sq.pv 24 169 33554431 HT_ ?_
       refine Sq.pv 25 170 67108863 HT_ ?_
       refine Sq.pv 26 171 134217727 HT_ ?_
       refine Sq.pv 28 173 402653183 HT_ ?_
       refine Sq.tv 27 172 536870911 HT_ HW_ hHeld ?_
       refine one_ (i := 29) (N := some 174) (bm 32 1073741823) rfl rfl (one_of HT_.out (by kernel_rfl)) (by decide) (fun K hK => ?_)
       refine goes_ Try.func25 (by kernel_rfl) rfl #[.int .i64 At, .int .i64 a1] (by rfl) rfl rfl (by (try simp only [List.map_toArray, List.map_cons, List.map_nil]); first | done | rfl) ?_
       refine (rr_fits At a1 (by rw [← HA1.out]; exact H48.out) w10 0).mono ?_
       rintro e w' ⟨rfl, ⟨nd, rfl⟩⟩
       rw [c5q]
       refine ⟨_, rfl, ?_⟩
       refine hK.out _ _ hHeld (fun hHeld => ?_)
       clear hK K
       refine norm_ (a' := ?_) ?_ ?_
       rotate_left
       ·
        show Act.put _ (some 174) _ = _
        simp only [Act.put, List.setIfInBounds_toArray, List.set_cons_zero, List.set_cons_succ, i64_w, i32_w]
        rfl
       refine Sq.pv 30 175 2147483647 HT_ ?_
       refine Sq.pv 31 176 4294967295 HT_ ?_
       refine done_ (done_of HT_.out (by kernel_rfl)) ?_
       go_wp2
       go_ret
       exact ⟨by rw [← HRES.out, rb_jump hlt hjk]; rfl, (by first | exact HB.out | exact pw_below_drewN HB.out _)⟩
     have hjk : jokB (l0_0.length : Int) a1_ l0_1 k = true := by unfold jokB; simp only [d1, Bool.false_and, Bool.not_false, Bool.true_and]; simp [← HKd.out, d3, d4, ← HAt.out, c5]
     clear c3 c4
     as_aux_lemma =>
      refine start_ (n := 32) (S := fun w' => w'.cell? ⟨g6, 0, none⟩ = some (.int .i64 At) ∧ w'.cell? ⟨g6, 1, none⟩ = some (.int .i64 Kd) ∧ w'.cell? ⟨g3, 0, none⟩ = some (.slice A0_0 l0_0.length c0_0) ∧ w'.cell? ⟨g3, 1, none⟩ = some (.slice (some ad) l0_1.length c0_1)) (ds := []) (Sq.bm 32 0) (by kernel_rfl) rfl (by kernel_rfl) ⟨z0, z1, s0, s1⟩ (fun hHeld => ?_); refine with_tabW longcaseref06_Right.tab24 longcaseref06_Right.bits24 (fun HT_ HW_ => ?_)
      replace B2 := Aside0.mk (blk_drew B2.out)
      replace B6 := Aside0.mk (blk_drew B6.out)
      replace HB := Aside0.mk (below_drew1 HB.out)
      clear z0 z1 s0 s1
      generalize w9.drew = w10 at B2 B6 HB hHeld ⊢
      refine Sq.pv 0 145 1 HT_ ?_
      refine Sq.pv 1 146 3 HT_ ?_
      refine Sq.pv 2 147 7 HT_ ?_
      refine Sq.nv 3 148 15 HT_ ?_
      refine Sq.nv 4 149 31 HT_ ?_
      refine Sq.nv 5 150 63 HT_ ?_
      refine Sq.nv 6 151 127 HT_ ?_
      refine Sq.nv 7 152 255 HT_ ?_
      refine Sq.nv 8 153 511 HT_ ?_
      refine Sq.nv 9 154 1023 HT_ ?_
      refine Sq.nv 10 155 2047 HT_ ?_
      refine Sq.nv 11 156 4095 HT_ ?_
      refine Sq.nv 12 157 8191 HT_ ?_
      refine Sq.pv 13 158 16383 HT_ ?_
      refine Sq.pv 14 159 32767 HT_ ?_
      refine Sq.pv 15 160 65535 HT_ ?_
      refine Sq.tv 16 161 131071 HT_ HW_ hHeld ?_
      refine Sq.pv 17 162 262143 HT_ ?_
      refine Sq.pv 18 163 524287 HT_ ?_
      refine Sq.pv 19 164 1048575 HT_ ?_
      refine Sq.pv 20 165 2097151 HT_ ?_
      refine Sq.pv 22 167 6291455 HT_ ?_
      refine Sq.tv 21 166 8388607 HT_ HW_ hHeld ?_
      refine Sq.pv 23 168 16777215 HT_ ?_
      refine Sq.pv 24 169 33554431 HT_ ?_
      refine Sq.pv 25 170 67108863 HT_ ?_
      refine Sq.pv 26 171 134217727 HT_ ?_
      refine Sq.pv 28 173 402653183 HT_ ?_
      refine Sq.tv 27 172 536870911 HT_ HW_ hHeld ?_
      refine one_ (i := 29) (N := some 174) (bm 32 1073741823) rfl rfl (one_of HT_.out (by kernel_rfl)) (by decide) (fun K hK => ?_)
      refine goes_ Try.func25 (by kernel_rfl) rfl #[.int .i64 At, .int .i64 a1] (by rfl) rfl rfl (by (try simp only [List.map_toArray, List.map_cons, List.map_nil]); first | done | rfl) ?_
      refine (rr_fits At a1 (by rw [← HA1.out]; exact H48.out) w10 0).mono ?_
      rintro e w' ⟨rfl, ⟨nd, rfl⟩⟩
      rw [c5q]
      refine ⟨_, rfl, ?_⟩
      refine hK.out _ _ hHeld (fun hHeld => ?_)
      clear hK K
      refine norm_ (a' := ?_) ?_ ?_
      rotate_left
      ·
       show Act.put _ (some 174) _ = _
       simp only [Act.put, List.setIfInBounds_toArray, List.set_cons_zero, List.set_cons_succ, i64_w, i32_w]
       rfl
      refine Sq.pv 30 175 2147483647 HT_ ?_
      refine Sq.pv 31 176 4294967295 HT_ ?_
      refine done_ (done_of HT_.out (by kernel_rfl)) ?_
      go_wp2
      go_roundw
      case rel => exact ⟨k + 1, by omega, by go_num, ⟨fun j hj => by rcases Nat.lt_succ_iff_lt_or_eq.1 hj with h | rfl; exact HA.out j h; exact hjk⟩, B2, ⟨(by first | exact HB.out | exact pw_below_drewN HB.out _)⟩⟩
      case measure => simp [intOf]; omega
    have d1 : decide (0 < (k : Int)) = true := decide_eq_true c1
    have d1n : decide (0 < k) = true := decide_eq_true (by omega)
    have hw : IntKind.i64.wrap ((k : Int) - 1) = (k : Int) - 1 := by rw [IntKind.wrap_i64]; omega
    have e0 : (0 ≤ IntKind.i64.wrap ((k : Int) - 1)) = True := eq_true (by rw [hw]; omega)
    have e1 : (IntKind.i64.wrap ((k : Int) - 1) < (l0_1.length : Int)) = True := eq_true (by rw [hw]; omega)
    obtain ⟨ad2, eA2, hp0, hp1⟩ := at_T54 HR1.out (IntKind.i64.wrap ((k : Int) - 1)) (by rw [hw]; omega) (by rw [hw]; omega)
    cases eA2
    replace hp0 := (HB.out.cell (World.block_lt_of_cell? w _ hp0)).trans hp0
    clear hp1
    obtain ⟨Pv, hPv⟩ : ∃ a, a = (rd_T54 l0_1 (IntKind.i64.wrap ((k : Int) - 1))).f0 := ⟨_, rfl⟩
    rw [← hPv] at hp0
    have HPv := Aside0.mk (show (rd_T54 l0_1 ((k : Int) - 1)).f0 = Pv by rw [hPv, hw])
    clear hPv hw
    by_cases c2 : At ≤ Pv
    ·
     have d2 : decide (At ≤ Pv) = true := decide_eq_true c2
     have hjk : jokB (l0_0.length : Int) a1_ l0_1 k = false := by unfold jokB; simp only [d1, ← HAt.out, HPv.out, d2, Bool.and_self, Bool.not_true, Bool.false_and]
     clear c1 c2
     as_aux_lemma =>
      have e0w := e0
      have e1w := e1
      rw [i64_w] at e0w e1w
      refine start_ (n := 32) (S := fun w' => w'.cell? ⟨g6, 0, none⟩ = some (.int .i64 At) ∧ w'.cell? ⟨g6, 1, none⟩ = some (.int .i64 Kd) ∧ w'.cell? ⟨g3, 0, none⟩ = some (.slice A0_0 l0_0.length c0_0) ∧ w'.cell? ⟨g3, 1, none⟩ = some (.slice (some ad) l0_1.length c0_1) ∧ w'.cell? (ad.add ((wrap64 ((k : Int) - 1)).toNat * 2)) = some (.int .i64 Pv)) (ds := []) (Sq.bm 32 0) (by kernel_rfl) rfl (by kernel_rfl) ⟨z0, z1, s0, s1, (by rw [← i64_w]; exact hp0)⟩ (fun hHeld => ?_); refine with_tabW longcaseref06_Right.tab24 longcaseref06_Right.bits24 (fun HT_ HW_ => ?_)
      replace B2 := Aside0.mk (blk_drew B2.out)
      replace B6 := Aside0.mk (blk_drew B6.out)
      replace HB := Aside0.mk (below_drew1 HB.out)
      clear z0 z1 s0 s1 hp0 e0 e1
      generalize w9.drew = w10 at B2 B6 HB hHeld ⊢
      refine Sq.pv 0 145 1 HT_ ?_
      refine Sq.pv 1 146 3 HT_ ?_
      refine Sq.pv 2 147 7 HT_ ?_
      refine Sq.pv 3 148 15 HT_ ?_
      refine Sq.pv 5 150 47 HT_ ?_
      refine Sq.pv 7 152 175 HT_ ?_
      refine Sq.pv 8 153 431 HT_ ?_
      refine Sq.tv 4 149 447 HT_ HW_ hHeld ?_
      refine Sq.tv 6 151 511 HT_ HW_ hHeld ?_
      refine Sq.pv 9 154 1023 HT_ ?_
      refine Sq.pv 10 155 2047 HT_ ?_
      refine Sq.tv 11 156 4095 HT_ HW_ hHeld ?_
      refine Sq.pv 12 157 8191 HT_ ?_
      refine Sq.pv 13 158 16383 HT_ ?_
      refine Sq.pv 14 159 32767 HT_ ?_
      refine Sq.nv 15 160 65535 HT_ ?_
      refine Sq.nv 16 161 131071 HT_ ?_
      refine Sq.nv 17 162 262143 HT_ ?_
      refine Sq.pv 18 163 524287 HT_ ?_
      refine Sq.pv 19 164 1048575 HT_ ?_
      refine Sq.nv 20 165 2097151 HT_ ?_
      refine Sq.nv 21 166 4194303 HT_ ?_
      refine Sq.nv 22 167 8388607 HT_ ?_
      refine Sq.nv 23 168 16777215 HT_ ?_
      refine Sq.pv 24 169 33554431 HT_ ?_
      refine Sq.pv 25 170 67108863 HT_ ?_
      refine Sq.nv 26 171 134217727 HT_ ?_
      refine Sq.nv 27 172 268435455 HT_ ?_
      refine Sq.nv 28 173 536870911 HT_ ?_
      refine Sq.nv 29 174 1073741823 HT_ ?_
      refine Sq.nv 30 175 2147483647 HT_ ?_
      refine Sq.pv 31 176 4294967295 HT_ ?_
      refine done_ (done_of HT_.out (by kernel_rfl)) ?_
      go_wp2
      go_ret
      exact ⟨by rw [← HRES.out, rb_jump hlt hjk]; rfl, (by first | exact HB.out | exact pw_below_drewN HB.out _)⟩
    have d2 : decide (At ≤ Pv) = false := decide_eq_false c2
    by_cases c3 : Kd < 0
    ·
     have d3 : decide (Kd < 0) = true := decide_eq_true c3
     have hjk : jokB (l0_0.length : Int) a1_ l0_1 k = false := by unfold jokB; simp only [d1, HPv.out, ← HAt.out, d2, Bool.and_false, Bool.false_and, Bool.not_false, Bool.true_and, Bool.and_self]; simp [← HKd.out, d3]
     clear c3
     as_aux_lemma =>
      have e0w := e0
      have e1w := e1
      rw [i64_w] at e0w e1w
      refine start_ (n := 32) (S := fun w' => w'.cell? ⟨g6, 0, none⟩ = some (.int .i64 At) ∧ w'.cell? ⟨g6, 1, none⟩ = some (.int .i64 Kd) ∧ w'.cell? ⟨g3, 0, none⟩ = some (.slice A0_0 l0_0.length c0_0) ∧ w'.cell? ⟨g3, 1, none⟩ = some (.slice (some ad) l0_1.length c0_1) ∧ w'.cell? (ad.add ((wrap64 ((k : Int) - 1)).toNat * 2)) = some (.int .i64 Pv)) (ds := []) (Sq.bm 32 0) (by kernel_rfl) rfl (by kernel_rfl) ⟨z0, z1, s0, s1, (by rw [← i64_w]; exact hp0)⟩ (fun hHeld => ?_); refine with_tabW longcaseref06_Right.tab24 longcaseref06_Right.bits24 (fun HT_ HW_ => ?_)
      replace B2 := Aside0.mk (blk_drew B2.out)
      replace B6 := Aside0.mk (blk_drew B6.out)
      replace HB := Aside0.mk (below_drew1 HB.out)
      clear z0 z1 s0 s1 hp0 e0 e1
      generalize w9.drew = w10 at B2 B6 HB hHeld ⊢
      refine Sq.pv 0 145 1 HT_ ?_
      refine Sq.pv 1 146 3 HT_ ?_
      refine Sq.pv 2 147 7 HT_ ?_
      refine Sq.pv 3 148 15 HT_ ?_
      refine Sq.pv 5 150 47 HT_ ?_
      refine Sq.pv 7 152 175 HT_ ?_
      refine Sq.pv 8 153 431 HT_ ?_
      refine Sq.tv 4 149 447 HT_ HW_ hHeld ?_
      refine Sq.tv 6 151 511 HT_ HW_ hHeld ?_
      refine Sq.pv 9 154 1023 HT_ ?_
      refine Sq.pv 10 155 2047 HT_ ?_
      refine Sq.tv 11 156 4095 HT_ HW_ hHeld ?_
      refine Sq.pv 12 157 8191 HT_ ?_
      refine Sq.pv 13 158 16383 HT_ ?_
      refine Sq.pv 14 159 32767 HT_ ?_
      refine Sq.pv 15 160 65535 HT_ ?_
      refine Sq.tv 16 161 131071 HT_ HW_ hHeld ?_
      refine Sq.pv 17 162 262143 HT_ ?_
      refine Sq.pv 18 163 524287 HT_ ?_
      refine Sq.pv 19 164 1048575 HT_ ?_
      refine Sq.nv 20 165 2097151 HT_ ?_
      refine Sq.nv 21 166 4194303 HT_ ?_
      refine Sq.nv 22 167 8388607 HT_ ?_
      refine Sq.nv 23 168 16777215 HT_ ?_
      refine Sq.pv 24 169 33554431 HT_ ?_
      refine Sq.pv 25 170 67108863 HT_ ?_
      refine Sq.nv 26 171 134217727 HT_ ?_
      refine Sq.nv 27 172 268435455 HT_ ?_
      refine Sq.nv 28 173 536870911 HT_ ?_
      refine Sq.nv 29 174 1073741823 HT_ ?_
      refine Sq.nv 30 175 2147483647 HT_ ?_
      refine Sq.pv 31 176 4294967295 HT_ ?_
      refine done_ (done_of HT_.out (by kernel_rfl)) ?_
      go_wp2
      go_ret
      exact ⟨by rw [← HRES.out, rb_jump hlt hjk]; rfl, (by first | exact HB.out | exact pw_below_drewN HB.out _)⟩
    have d3 : decide (Kd < 0) = false := decide_eq_false c3
    by_cases c4 : (l0_0.length : Int) ≤ Kd
    ·
     have d4 : decide ((l0_0.length : Int) ≤ Kd) = true := decide_eq_true c4
     have hjk : jokB (l0_0.length : Int) a1_ l0_1 k = false := by unfold jokB; simp only [d1, HPv.out, ← HAt.out, d2, Bool.and_false, Bool.false_and, Bool.not_false, Bool.true_and, Bool.and_self]; simp [← HKd.out, d3, d4]
     clear c3 c4
     as_aux_lemma =>
      have e0w := e0
      have e1w := e1
      rw [i64_w] at e0w e1w
      refine start_ (n := 32) (S := fun w' => w'.cell? ⟨g6, 0, none⟩ = some (.int .i64 At) ∧ w'.cell? ⟨g6, 1, none⟩ = some (.int .i64 Kd) ∧ w'.cell? ⟨g3, 0, none⟩ = some (.slice A0_0 l0_0.length c0_0) ∧ w'.cell? ⟨g3, 1, none⟩ = some (.slice (some ad) l0_1.length c0_1) ∧ w'.cell? (ad.add ((wrap64 ((k : Int) - 1)).toNat * 2)) = some (.int .i64 Pv)) (ds := []) (Sq.bm 32 0) (by kernel_rfl) rfl (by kernel_rfl) ⟨z0, z1, s0, s1, (by rw [← i64_w]; exact hp0)⟩ (fun hHeld => ?_); refine with_tabW longcaseref06_Right.tab24 longcaseref06_Right.bits24 (fun HT_ HW_ => ?_)
      replace B2 := Aside0.mk (blk_drew B2.out)
      replace B6 := Aside0.mk (blk_drew B6.out)
      replace HB := Aside0.mk (below_drew1 HB.out)
      clear z0 z1 s0 s1 hp0 e0 e1
      generalize w9.drew = w10 at B2 B6 HB hHeld ⊢
      refine Sq.pv 0 145 1 HT_ ?_
      refine Sq.pv 1 146 3 HT_ ?_
      refine Sq.pv 2 147 7 HT_ ?_
      refine Sq.pv 3 148 15 HT_ ?_
      refine Sq.pv 5 150 47 HT_ ?_
      refine Sq.pv 7 152 175 HT_ ?_
      refine Sq.pv 8 153 431 HT_ ?_
      refine Sq.tv 4 149 447 HT_ HW_ hHeld ?_
      refine Sq.tv 6 151 511 HT_ HW_ hHeld ?_
      refine Sq.pv 9 154 1023 HT_ ?_
      refine Sq.pv 10 155 2047 HT_ ?_
      refine Sq.tv 11 156 4095 HT_ HW_ hHeld ?_
      refine Sq.pv 12 157 8191 HT_ ?_
      refine Sq.pv 13 158 16383 HT_ ?_
      refine Sq.pv 14 159 32767 HT_ ?_
      refine Sq.pv 15 160 65535 HT_ ?_
      refine Sq.tv 16 161 131071 HT_ HW_ hHeld ?_
      refine Sq.pv 17 162 262143 HT_ ?_
      refine Sq.pv 18 163 524287 HT_ ?_
      refine Sq.pv 19 164 1048575 HT_ ?_
      refine Sq.pv 20 165 2097151 HT_ ?_
      refine Sq.pv 22 167 6291455 HT_ ?_
      refine Sq.tv 21 166 8388607 HT_ HW_ hHeld ?_
      refine Sq.pv 23 168 16777215 HT_ ?_
      refine Sq.pv 24 169 33554431 HT_ ?_
      refine Sq.pv 25 170 67108863 HT_ ?_
      refine Sq.nv 26 171 134217727 HT_ ?_
      refine Sq.nv 27 172 268435455 HT_ ?_
      refine Sq.nv 28 173 536870911 HT_ ?_
      refine Sq.nv 29 174 1073741823 HT_ ?_
      refine Sq.nv 30 175 2147483647 HT_ ?_
      refine Sq.pv 31 176 4294967295 HT_ ?_
      refine done_ (done_of HT_.out (by kernel_rfl)) ?_
      go_wp2
      go_ret
      exact ⟨by rw [← HRES.out, rb_jump hlt hjk]; rfl, (by first | exact HB.out | exact pw_below_drewN HB.out _)⟩
    have d4 : decide ((l0_0.length : Int) ≤ Kd) = false := decide_eq_false c4
    obtain ⟨fv, hfv⟩ : ∃ x, x = fitsB At a1_ := ⟨_, rfl⟩
    have c5q := hfv.symm
    rw [HA1.out] at c5q
    have c5 := hfv.symm
    clear hfv
    cases fv
    ·
     have hjk : jokB (l0_0.length : Int) a1_ l0_1 k = false := by unfold jokB; simp only [d1, HPv.out, ← HAt.out, d2, Bool.and_false, Bool.false_and, Bool.not_false, Bool.true_and, Bool.and_self]; simp [← HKd.out, d3, d4, ← HAt.out, c5]
     clear c3 c4
     as_aux_lemma =>
      have e0w := e0
      have e1w := e1
      rw [i64_w] at e0w e1w
      refine start_ (n := 32) (S := fun w' => w'.cell? ⟨g6, 0, none⟩ = some (.int .i64 At) ∧ w'.cell? ⟨g6, 1, none⟩ = some (.int .i64 Kd) ∧ w'.cell? ⟨g3, 0, none⟩ = some (.slice A0_0 l0_0.length c0_0) ∧ w'.cell? ⟨g3, 1, none⟩ = some (.slice (some ad) l0_1.length c0_1) ∧ w'.cell? (ad.add ((wrap64 ((k : Int) - 1)).toNat * 2)) = some (.int .i64 Pv)) (ds := []) (Sq.bm 32 0) (by kernel_rfl) rfl (by kernel_rfl) ⟨z0, z1, s0, s1, (by rw [← i64_w]; exact hp0)⟩ (fun hHeld => ?_); refine with_tabW longcaseref06_Right.tab24 longcaseref06_Right.bits24 (fun HT_ HW_ => ?_)
      replace B2 := Aside0.mk (blk_drew B2.out)
      replace B6 := Aside0.mk (blk_drew B6.out)
      replace HB := Aside0.mk (below_drew1 HB.out)
      clear z0 z1 s0 s1 hp0 e0 e1
      generalize w9.drew = w10 at B2 B6 HB hHeld ⊢
      refine Sq.pv 0 145 1 HT_ ?_
      refine Sq.pv 1 146 3 HT_ ?_
      refine Sq.pv 2 147 7 HT_ ?_
      refine Sq.pv 3 148 15 HT_ ?_
      refine Sq.pv 5 150 47 HT_ ?_
      refine Sq.pv 7 152 175 HT_ ?_
      refine Sq.pv 8 153 431 HT_ ?_
      refine Sq.tv 4 149 447 HT_ HW_ hHeld ?_
      refine Sq.tv 6 151 511 HT_ HW_ hHeld ?_
      refine Sq.pv 9 154 1023 HT_ ?_
      refine Sq.pv 10 155 2047 HT_ ?_
      refine Sq.tv 11 156 4095 HT_ HW_ hHeld ?_
      refine Sq.pv 12 157 8191 HT_ ?_
      refine Sq.pv 13 158 16383 HT_ ?_
      refine Sq.pv 14 159 32767 HT_ ?_
      refine Sq.pv 15 160 65535 HT_ ?_
      refine Sq.tv 16 161 131071 HT_ HW_ hHeld ?_
      refine Sq.pv 17 162 262143 HT_ ?_
      refine Sq.pv 18 163 524287 HT_ ?_
      refine Sq.pv 19 164 1048575 HT_ ?_
      refine Sq.pv 20 165 2097151 HT_ ?_
      refine Sq.pv 22 167 6291455 HT_ ?_
      refine Sq.tv 21 166 8388607 HT_ HW_ hHeld ?_
      refine Sq.pv 23 168 16777215 HT_ ?_
      refine Sq.pv 24 169 33554431 HT_ ?_
      refine Sq.pv 25 170 67108863 HT_ ?_
      refine Sq.pv 26 171 134217727 HT_ ?_
      refine Sq.pv 28 173 402653183 HT_ ?_
      refine Sq.tv 27 172 536870911 HT_ HW_ hHeld ?_
      refine one_ (i := 29) (N := some 174) (bm 32 1073741823) rfl rfl (one_of HT_.out (by kernel_rfl)) (by decide) (fun K hK => ?_)
      refine goes_ Try.func25 (by kernel_rfl) rfl #[.int .i64 At, .int .i64 a1] (by rfl) rfl rfl (by (try simp only [List.map_toArray, List.map_cons, List.map_nil]); first | done | rfl) ?_
      refine (rr_fits At a1 (by rw [← HA1.out]; exact H48.out) w10 0).mono ?_
      rintro e w' ⟨rfl, ⟨nd, rfl⟩⟩
      rw [c5q]
      refine ⟨_, rfl, ?_⟩
      refine hK.out _ _ hHeld (fun hHeld => ?_)
      clear hK K
      refine norm_ (a' := ?_) ?_ ?_
      rotate_left
      ·
       show Act.put _ (some 174) _ = _
       simp only [Act.put, List.setIfInBounds_toArray, List.set_cons_zero, List.set_cons_succ, i64_w, i32_w]
       rfl
      refine Sq.pv 30 175 2147483647 HT_ ?_
      refine Sq.pv 31 176 4294967295 HT_ ?_
      refine done_ (done_of HT_.out (by kernel_rfl)) ?_
      go_wp2
      go_ret
      exact ⟨by rw [← HRES.out, rb_jump hlt hjk]; rfl, (by first | exact HB.out | exact pw_below_drewN HB.out _)⟩
    have hjk : jokB (l0_0.length : Int) a1_ l0_1 k = true := by unfold jokB; simp only [d1, HPv.out, ← HAt.out, d2, Bool.and_false, Bool.false_and, Bool.not_false, Bool.true_and, Bool.and_self]; simp [← HKd.out, d3, d4, ← HAt.out, c5]
    clear c3 c4
    as_aux_lemma =>
     have e0w := e0
     have e1w := e1
     rw [i64_w] at e0w e1w
     refine start_ (n := 32) (S := fun w' => w'.cell? ⟨g6, 0, none⟩ = some (.int .i64 At) ∧ w'.cell? ⟨g6, 1, none⟩ = some (.int .i64 Kd) ∧ w'.cell? ⟨g3, 0, none⟩ = some (.slice A0_0 l0_0.length c0_0) ∧ w'.cell? ⟨g3, 1, none⟩ = some (.slice (some ad) l0_1.length c0_1) ∧ w'.cell? (ad.add ((wrap64 ((k : Int) - 1)).toNat * 2)) = some (.int .i64 Pv)) (ds := []) (Sq.bm 32 0) (by kernel_rfl) rfl (by kernel_rfl) ⟨z0, z1, s0, s1, (by rw [← i64_w]; exact hp0)⟩ (fun hHeld => ?_); refine with_tabW longcaseref06_Right.tab24 longcaseref06_Right.bits24 (fun HT_ HW_ => ?_)
     replace B2 := Aside0.mk (blk_drew B2.out)
     replace B6 := Aside0.mk (blk_drew B6.out)
     replace HB := Aside0.mk (below_drew1 HB.out)
     clear z0 z1 s0 s1 hp0 e0 e1
     generalize w9.drew = w10 at B2 B6 HB hHeld ⊢
     refine Sq.pv 0 145 1 HT_ ?_
     refine Sq.pv 1 146 3 HT_ ?_
     refine Sq.pv 2 147 7 HT_ ?_
     refine Sq.pv 3 148 15 HT_ ?_
     refine Sq.pv 5 150 47 HT_ ?_
     refine Sq.pv 7 152 175 HT_ ?_
     refine Sq.pv 8 153 431 HT_ ?_
     refine Sq.tv 4 149 447 HT_ HW_ hHeld ?_
     refine Sq.tv 6 151 511 HT_ HW_ hHeld ?_
     refine Sq.pv 9 154 1023 HT_ ?_
     refine Sq.pv 10 155 2047 HT_ ?_
     refine Sq.tv 11 156 4095 HT_ HW_ hHeld ?_
     refine Sq.pv 12 157 8191 HT_ ?_
     refine Sq.pv 13 158 16383 HT_ ?_
     refine Sq.pv 14 159 32767 HT_ ?_
     refine Sq.pv 15 160 65535 HT_ ?_
     refine Sq.tv 16 161 131071 HT_ HW_ hHeld ?_
     refine Sq.pv 17 162 262143 HT_ ?_
     refine Sq.pv 18 163 524287 HT_ ?_
     refine Sq.pv 19 164 1048575 HT_ ?_
     refine Sq.pv 20 165 2097151 HT_ ?_
     refine Sq.pv 22 167 6291455 HT_ ?_
     refine Sq.tv 21 166 8388607 HT_ HW_ hHeld ?_
     refine Sq.pv 23 168 16777215 HT_ ?_
     refine Sq.pv 24 169 33554431 HT_ ?_
     refine Sq.pv 25 170 67108863 HT_ ?_
     refine Sq.pv 26 171 134217727 HT_ ?_
     refine Sq.pv 28 173 402653183 HT_ ?_
     refine Sq.tv 27 172 536870911 HT_ HW_ hHeld ?_
     refine one_ (i := 29) (N := some 174) (bm 32 1073741823) rfl rfl (one_of HT_.out (by kernel_rfl)) (by decide) (fun K hK => ?_)
     refine goes_ Try.func25 (by kernel_rfl) rfl #[.int .i64 At, .int .i64 a1] (by rfl) rfl rfl (by (try simp only [List.map_toArray, List.map_cons, List.map_nil]); first | done | rfl) ?_
     refine (rr_fits At a1 (by rw [← HA1.out]; exact H48.out) w10 0).mono ?_
     rintro e w' ⟨rfl, ⟨nd, rfl⟩⟩
     rw [c5q]
     refine ⟨_, rfl, ?_⟩
     refine hK.out _ _ hHeld (fun hHeld => ?_)
     clear hK K
     refine norm_ (a' := ?_) ?_ ?_
     rotate_left
     ·
      show Act.put _ (some 174) _ = _
      simp only [Act.put, List.setIfInBounds_toArray, List.set_cons_zero, List.set_cons_succ, i64_w, i32_w]
      rfl
     refine Sq.pv 30 175 2147483647 HT_ ?_
     refine Sq.pv 31 176 4294967295 HT_ ?_
     refine done_ (done_of HT_.out (by kernel_rfl)) ?_
     go_wp2
     go_roundw
     case rel => exact ⟨k + 1, by omega, by go_num, ⟨fun j hj => by rcases Nat.lt_succ_iff_lt_or_eq.1 hj with h | rfl; exact HA.out j h; exact hjk⟩, B2, ⟨(by first | exact HB.out | exact pw_below_drewN HB.out _)⟩⟩
     case measure => simp [intOf]; omega
   have hkl : k = l0_1.length := by omega
   subst hkl
   have cl : decide ((l0_1.length : Int) < (l0_1.length : Int)) = false := decide_eq_false (by omega)
   have HJA := Aside0.mk HA.out
   have B3 := B2
   clear HA hk hlt B2
   obtain ⟨s0, s1, s2, s3, s4⟩ := Sq.c5 B3
   go_wp2
   go_loopw [15, 16] (fun wv i wr => ∃ k : Nat, k ≤ l0_2.length ∧ wv = .int .i64 (wasL l0_2 k).2 ∧ i = .int .i64 k ∧ Aside0 (∀ j, j < k → lokB a2 a1_ l0_2 j = true) ∧ Aside0 (wr.heap[g3]? = some (.cells #[.slice A0_0 l0_0.length c0_0, .slice A0_1 l0_1.length c0_1, .slice A0_2 l0_2.length c0_2, .slice A0_3 l0_3.length c0_3, .slice A0_4 l0_4.length c0_4] 31 (0, 0))) ∧ Aside0 (Below w.heap.size w wr)) (fun _ i _ => l0_2.length - (intOf i).toNat)
   case atStart => exact ⟨0, by omega, rfl, rfl, ⟨fun j hj => absurd hj (Nat.not_lt_zero j)⟩, B3, HB⟩
   as_aux_lemma =>
    clear B3 HB s0 s1 s2 s3 s4
    obtain ⟨k, hk, rfl, rfl, HA, B3, HB⟩ := hrel
    by_cases hlt : k < l0_2.length
    rotate_left
    ·
     have hkl : k = l0_2.length := by omega
     subst hkl
     have cl : decide ((l0_2.length : Int) < (l0_2.length : Int)) = false := decide_eq_false (by omega)
     obtain ⟨s0, s1, s2, s3, s4⟩ := Sq.c5 B3
     have HLL := Aside0.mk HA.out
     clear HA hk hlt
     go_wp2
     go_ret
     exact ⟨by rw [← HRES.out, rb_true H48.out (by omega) (by omega) c5 c6 HKA.out (by rw [← HNN.out]; omega) HJA.out (by omega) HLL.out (by omega)]; rfl, HB.out⟩
    have cl : decide ((k : Int) < (l0_2.length : Int)) = true := decide_eq_true (by omega)
    have ck0 : decide (0 ≤ (k : Int)) = true := decide_eq_true (by omega)
    obtain ⟨ad, eA, hx0, hx1⟩ := at_T67 HR2.out (k : Int) (by omega) (by omega)
    subst eA
    replace hx0 := (HB.out.cell (World.block_lt_of_cell? w _ hx0)).trans hx0
    replace hx1 := (HB.out.cell (World.block_lt_of_cell? w _ hx1)).trans hx1
    simp only [Int.toNat_natCast] at hx0 hx1
    obtain ⟨r0, r1, r2, r3, r4⟩ := Sq.c5 B3
    obtain ⟨At, hAt⟩ : ∃ a, a = (rd_T67 l0_2 (k : Int)).f0 := ⟨_, rfl⟩
    obtain ⟨Co, hCo⟩ : ∃ a, a = (rd_T67 l0_2 (k : Int)).f1 := ⟨_, rfl⟩
    rw [← hAt] at hx0
    rw [← hCo] at hx1
    obtain ⟨Wa, hWa⟩ : ∃ a, a = (wasL l0_2 k).1 := ⟨_, rfl⟩
    obtain ⟨Wc, hWc⟩ : ∃ a, a = (wasL l0_2 k).2 := ⟨_, rfl⟩
    rw [← hWc]
    have hin : ∀ j : Nat, j < l0_2.length → -9223372036854775808 ≤ (rd_T67 l0_2 (j : Int)).f1 ∧ (rd_T67 l0_2 (j : Int)).f1 ≤ 9223372036854775807 := by
     intro j hj
     have e : rd_T67 l0_2 (j : Int) = l0_2[j] := by unfold rd_T67; simp [hj]
     rw [e]
     exact HGL.out _ (List.getElem_mem hj)
    have hcr := hin k hlt
    rw [← hCo] at hcr
    have hwr : -9223372036854775808 ≤ Wc ∧ Wc ≤ 9223372036854775807 := by
     rw [hWc]
     unfold wasL
     split
     ·
      exact ⟨by decide, by decide⟩
     exact hin (k - 1) (by omega)
    have hst : stepL l0_2 k = wrap64 (Co - Wc) := by unfold stepL; rw [← hCo, ← hWc]
    obtain ⟨St, hSt⟩ : ∃ a, a = wrap64 (Co - Wc) := ⟨_, rfl⟩
    obtain ⟨b1, hb1⟩ : ∃ x, x = (St == 1) := ⟨_, rfl⟩
    obtain ⟨b2, hb2⟩ : ∃ x, x = (St == -1) := ⟨_, rfl⟩
    have E1 : (Co == wrap64 (Wc + 1)) = b1 := by rw [hb1, hSt]; exact st1 hcr hwr
    have E2 : (Co == wrap64 (Wc - 1)) = b2 := by rw [hb2, hSt]; exact st2 hcr hwr
    have E0 := Aside0.mk (show (Co == Wc) = (St == 0) by rw [hSt]; exact st0 hcr hwr)
    obtain ⟨La, hLa⟩ : ∃ a, a = lastL a2 l0_2 k := ⟨_, rfl⟩
    have hlast : La = ((a2 == 4) && decide (0 < k) && ((k : Int) == wrap64 ((l0_2.length : Int) - 1)) && (St == 0)) := by rw [hLa, hSt]; unfold lastL; rw [hst]
    have HOK0 := Aside0.mk (show lokB a2 a1_ l0_2 k = (!decide (At ≤ Wa) && (b1 || b2 || La) && fitsB At a1_) by unfold lokB; rw [hst, ← hAt, ← hWa, hb1, hb2, hSt, hLa])
    have HWN := Aside0.mk (show (wasL l0_2 (k + 1)).2 = Co by unfold wasL; rw [if_neg (Nat.succ_ne_zero k), Nat.add_sub_cancel, ← hCo])
    have HWA := Aside0.mk hWa
    have HLA := Aside0.mk hlast
    clear hAt hCo hWa hWc hin hcr hwr hst hSt hb1 hb2 hLa hlast
    go_upto_region 31 with ((with_reducible refine gate_dst (N := 17) rfl ?_); refine box_event ?_ (N := 17) ?_ (cs := #[.int .i64 0, .int .i64 0]) (t := 67) ?_ ?_; (· rfl); (· rfl); (· first | (go_simp; done) | (go_simp; rfl)); intro g7 hg w8 hbox hb; have Bg7 := Aside0.mk hbox; have GEg7 := Aside0.mk (show wr.heap.size ≤ g7 by first | omega | (have h_ := below_size HB.out; omega)); clear hbox hg; have HW8 := Aside0.mk hb; clear hb; obtain ⟨z0, z1⟩ := Sq.c2 Bg7; have y0 := blk_frozen Bg7.out 0; have y1 := blk_frozen Bg7.out 1)
    have hne : g3 ≠ g7 := by have := blk_lt B3.out; have := GEg7.out; omega
    have GB7 : Aside0 (w.heap.size ≤ g7) := ⟨by have := HB.out.size; have := GEg7.out; omega⟩
    refine forget_wp (fun wc => Aside0 (wc.heap[g3]? = some (.cells #[.slice A0_0 l0_0.length c0_0, .slice A0_1 l0_1.length c0_1, .slice (some ad) l0_2.length c0_2, .slice A0_3 l0_3.length c0_3, .slice A0_4 l0_4.length c0_4] 31 (0, 0))) ∧ Aside0 (wc.heap[g7]? = some (.cells #[.int .i64 At, .int .i64 Co] 67 (0, 0))) ∧ Aside0 (Below w.heap.size w wc)) ⟨⟨blk_far (blk_far (blk_below B3.out HW8.out) hne _) hne _⟩, ⟨(blk_set (blk_set Bg7.out 0 _) 1 _).trans rfl⟩, ⟨below_set (below_set (below_step HB.out HW8.out) GB7.out) GB7.out⟩⟩ ?_
    clear Bg7 B3 HB HW8 GEg7 z0 z1 y0 y1 hx0 hx1 hne GB7 r0 r1 r2 r3 r4
    rintro w9 ⟨B3, B7, HB⟩
    obtain ⟨s0, s1, s2, s3, s4⟩ := Sq.c5 B3
    obtain ⟨z0, z1⟩ := Sq.c2 B7
    go_cut [18] (fun v18 wc => v18 = .bool (b1 || b2) ∧ wc = w9)
    case first =>
     cases b1 <;> cases b2
     all_goals
      go_wp2
      go_meet
      exact ⟨rfl, rfl⟩
    obtain ⟨rfl, hwc⟩ := hcut
    rw [hwc]
    clear hwc
    obtain ⟨On, hOn⟩ : ∃ x, x = (b1 || b2) := ⟨_, rfl⟩
    rw [← hOn]
    have HOK := Aside0.mk (show lokB a2 a1_ l0_2 k = (!decide (At ≤ Wa) && (On || La) && fitsB At a1_) by rw [hOn]; exact HOK0.out)
    clear hOn E1 E2 HOK0
    go_upto_region 32 with (fail)
    go_cut [19] (fun v19 wc => v19 = .bool La ∧ wc = w9)
    case first =>
     have HLA2 := HLA.out
     rw [w64 (n := (l0_2.length : Int) - 1) (by omega) (by omega)] at HLA2
     have E0 := E0.out
     obtain ⟨b0, hb0⟩ : ∃ x, x = (St == 0) := ⟨_, rfl⟩
     rw [← hb0] at HLA2 E0
     clear HLA hb0
     have hw : IntKind.i64.wrap ((l0_2.length : Int) - 1) = (l0_2.length : Int) - 1 := by rw [IntKind.wrap_i64]; omega
     rcases (show ((a2 == 4) = false) ∨ ((a2 == 4) = true ∧ decide (0 < k) = false) ∨ ((a2 == 4) = true ∧ decide (0 < k) = true ∧ ((k : Int) == (l0_2.length : Int) - 1) = false) ∨ ((a2 == 4) = true ∧ decide (0 < k) = true ∧ ((k : Int) == (l0_2.length : Int) - 1) = true) by
      cases (a2 == 4) <;> cases decide (0 < k) <;> cases ((k : Int) == (l0_2.length : Int) - 1) <;> simp) with e0 | ⟨e0, e1⟩ | ⟨e0, e1, e2⟩ | ⟨e0, e1, e2⟩
     all_goals
      rw [e0] at HLA2
      try rw [e1] at HLA2
      try rw [e2] at HLA2
      simp only [Bool.and_false, Bool.false_and, Bool.true_and, Bool.and_self] at HLA2
      try have e1i : decide (0 < (k : Int)) = _ := (by first | (have h_ := of_decide_eq_true e1; exact decide_eq_true (by omega)) | (have h_ := of_decide_eq_false e1; exact decide_eq_false (by omega)))
      go_wp2
      go_meet
      exact ⟨by rw [HLA2], rfl⟩
    obtain ⟨rfl, hwc⟩ := hcut
    rw [hwc]
    clear hwc HLA E0
    go_upto_region 33 with (fail)
    by_cases k0 : k = 0
    ·
     have dk0 : ((k : Int) == 0) = true := beq_iff_eq.2 (by omega)
     have dkp : decide (0 < (k : Int)) = false := decide_eq_false (by omega)
     have hW1 : Wa = -1 := by rw [HWA.out, k0]; rfl
     by_cases cA : At < 0
     ·
      have dA : decide (At < 0) = true := decide_eq_true cA
      as_aux_lemma =>
       refine start_ (n := 38) (S := fun w' => w'.cell? ⟨g7, 0, none⟩ = some (.int .i64 At) ∧ w'.cell? ⟨g7, 1, none⟩ = some (.int .i64 Co) ∧ w'.cell? ⟨g3, 0, none⟩ = some (.slice A0_0 l0_0.length c0_0) ∧ w'.cell? ⟨g3, 1, none⟩ = some (.slice A0_1 l0_1.length c0_1) ∧ w'.cell? ⟨g3, 2, none⟩ = some (.slice (some ad) l0_2.length c0_2)) (ds := []) (Sq.bm 38 0) (by kernel_rfl) rfl (by kernel_rfl) ⟨z0, z1, s0, s1, s2⟩ (fun hHeld => ?_); refine with_tabW longcaseref06_Right.tab33 longcaseref06_Right.bits33 (fun HT_ HW_ => ?_)
       replace B3 := Aside0.mk (blk_drew B3.out)
       replace B7 := Aside0.mk (blk_drew B7.out)
       replace HB := Aside0.mk (below_drew1 HB.out)
       clear z0 z1 s0 s1 s2
       generalize w9.drew = w10 at B3 B7 HB hHeld ⊢
       refine Sq.pv 0 221 1 HT_ ?_
       refine Sq.pv 1 222 3 HT_ ?_
       refine Sq.pv 2 223 7 HT_ ?_
       refine Sq.pv 3 224 15 HT_ ?_
       refine Sq.tv 4 225 31 HT_ HW_ hHeld ?_
       refine Sq.pv 5 226 63 HT_ ?_
       refine Sq.pv 6 227 127 HT_ ?_
       refine Sq.pv 7 228 255 HT_ ?_
       refine Sq.nv 8 229 511 HT_ ?_
       refine Sq.nv 9 230 1023 HT_ ?_
       refine Sq.nv 10 231 2047 HT_ ?_
       refine Sq.nv 11 232 4095 HT_ ?_
       refine Sq.nv 12 233 8191 HT_ ?_
       refine Sq.nv 13 234 16383 HT_ ?_
       refine Sq.nv 14 235 32767 HT_ ?_
       refine Sq.nv 15 236 65535 HT_ ?_
       refine Sq.nv 16 237 131071 HT_ ?_
       refine Sq.nv 17 238 262143 HT_ ?_
       refine Sq.nv 18 239 524287 HT_ ?_
       refine Sq.nv 19 240 1048575 HT_ ?_
       refine Sq.nv 20 241 2097151 HT_ ?_
       refine Sq.nv 21 242 4194303 HT_ ?_
       refine Sq.pv 22 243 8388607 HT_ ?_
       refine Sq.pv 23 244 16777215 HT_ ?_
       refine Sq.nv 24 245 33554431 HT_ ?_
       refine Sq.nv 25 246 67108863 HT_ ?_
       refine Sq.nv 26 247 134217727 HT_ ?_
       refine Sq.nv 27 248 268435455 HT_ ?_
       refine Sq.nv 28 249 536870911 HT_ ?_
       refine Sq.nv 29 250 1073741823 HT_ ?_
       refine Sq.pv 30 251 2147483647 HT_ ?_
       refine Sq.pv 31 252 4294967295 HT_ ?_
       refine Sq.nv 32 253 8589934591 HT_ ?_
       refine Sq.nv 33 254 17179869183 HT_ ?_
       refine Sq.nv 34 255 34359738367 HT_ ?_
       refine Sq.nv 35 256 68719476735 HT_ ?_
       refine Sq.nv 36 257 137438953471 HT_ ?_
       refine Sq.pv 37 258 274877906943 HT_ ?_
       refine done_ (done_of HT_.out (by kernel_rfl)) ?_
       go_wp2
       go_ret
       exact ⟨by rw [← HRES.out, rb_leap hlt (HOK.out.trans (by rw [decide_eq_true (show At ≤ Wa by omega)]; rfl))]; rfl, (by first | exact HB.out | exact pw_below_drewN HB.out _)⟩
     have dA : decide (At < 0) = false := decide_eq_false cA
     have DLE : decide (At ≤ Wa) = false := decide_eq_false (by omega)
     clear hW1
     cases On
     ·
      cases La
      ·
       as_aux_lemma =>
        refine start_ (n := 38) (S := fun w' => w'.cell? ⟨g7, 0, none⟩ = some (.int .i64 At) ∧ w'.cell? ⟨g7, 1, none⟩ = some (.int .i64 Co) ∧ w'.cell? ⟨g3, 0, none⟩ = some (.slice A0_0 l0_0.length c0_0) ∧ w'.cell? ⟨g3, 1, none⟩ = some (.slice A0_1 l0_1.length c0_1) ∧ w'.cell? ⟨g3, 2, none⟩ = some (.slice (some ad) l0_2.length c0_2)) (ds := []) (Sq.bm 38 0) (by kernel_rfl) rfl (by kernel_rfl) ⟨z0, z1, s0, s1, s2⟩ (fun hHeld => ?_); refine with_tabW longcaseref06_Right.tab33 longcaseref06_Right.bits33 (fun HT_ HW_ => ?_)
        replace B3 := Aside0.mk (blk_drew B3.out)
        replace B7 := Aside0.mk (blk_drew B7.out)
        replace HB := Aside0.mk (below_drew1 HB.out)
        clear z0 z1 s0 s1 s2
        generalize w9.drew = w10 at B3 B7 HB hHeld ⊢
        refine Sq.pv 0 221 1 HT_ ?_
        refine Sq.pv 1 222 3 HT_ ?_
        refine Sq.pv 2 223 7 HT_ ?_
        refine Sq.pv 3 224 15 HT_ ?_
        refine Sq.tv 4 225 31 HT_ HW_ hHeld ?_
        refine Sq.pv 5 226 63 HT_ ?_
        refine Sq.pv 6 227 127 HT_ ?_
        refine Sq.pv 7 228 255 HT_ ?_
        refine Sq.pv 8 229 511 HT_ ?_
        refine Sq.pv 9 230 1023 HT_ ?_
        refine Sq.pv 10 231 2047 HT_ ?_
        refine Sq.nv 11 232 4095 HT_ ?_
        refine Sq.nv 12 233 8191 HT_ ?_
        refine Sq.nv 13 234 16383 HT_ ?_
        refine Sq.nv 14 235 32767 HT_ ?_
        refine Sq.nv 15 236 65535 HT_ ?_
        refine Sq.nv 16 237 131071 HT_ ?_
        refine Sq.nv 17 238 262143 HT_ ?_
        refine Sq.nv 18 239 524287 HT_ ?_
        refine Sq.nv 19 240 1048575 HT_ ?_
        refine Sq.nv 20 241 2097151 HT_ ?_
        refine Sq.pv 21 242 4194303 HT_ ?_
        refine Sq.pv 22 243 8388607 HT_ ?_
        refine Sq.pv 23 244 16777215 HT_ ?_
        refine Sq.pv 24 245 33554431 HT_ ?_
        refine Sq.pv 25 246 67108863 HT_ ?_
        refine Sq.pv 26 247 134217727 HT_ ?_
        refine Sq.pv 27 248 268435455 HT_ ?_
        refine Sq.pv 28 249 536870911 HT_ ?_
        refine Sq.pv 29 250 1073741823 HT_ ?_
        refine Sq.pv 30 251 2147483647 HT_ ?_
        refine Sq.pv 31 252 4294967295 HT_ ?_
        refine Sq.nv 32 253 8589934591 HT_ ?_
        refine Sq.nv 33 254 17179869183 HT_ ?_
        refine Sq.nv 34 255 34359738367 HT_ ?_
        refine Sq.nv 35 256 68719476735 HT_ ?_
        refine Sq.nv 36 257 137438953471 HT_ ?_
        refine Sq.pv 37 258 274877906943 HT_ ?_
        refine done_ (done_of HT_.out (by kernel_rfl)) ?_
        go_wp2
        go_ret
        exact ⟨by rw [← HRES.out, rb_leap hlt (HOK.out.trans (by rw [DLE]; simp))]; rfl, (by first | exact HB.out | exact pw_below_drewN HB.out _)⟩
      obtain ⟨fv, hfv⟩ : ∃ x, x = fitsB At a1_ := ⟨_, rfl⟩
      have c5q := hfv.symm
      rw [HA1.out] at c5q
      have c5 := hfv.symm
      clear hfv
      cases fv
      ·
       as_aux_lemma =>
        refine start_ (n := 38) (S := fun w' => w'.cell? ⟨g7, 0, none⟩ = some (.int .i64 At) ∧ w'.cell? ⟨g7, 1, none⟩ = some (.int .i64 Co) ∧ w'.cell? ⟨g3, 0, none⟩ = some (.slice A0_0 l0_0.length c0_0) ∧ w'.cell? ⟨g3, 1, none⟩ = some (.slice A0_1 l0_1.length c0_1) ∧ w'.cell? ⟨g3, 2, none⟩ = some (.slice (some ad) l0_2.length c0_2)) (ds := []) (Sq.bm 38 0) (by kernel_rfl) rfl (by kernel_rfl) ⟨z0, z1, s0, s1, s2⟩ (fun hHeld => ?_); refine with_tabW longcaseref06_Right.tab33 longcaseref06_Right.bits33 (fun HT_ HW_ => ?_)
        replace B3 := Aside0.mk (blk_drew B3.out)
        replace B7 := Aside0.mk (blk_drew B7.out)
        replace HB := Aside0.mk (below_drew1 HB.out)
        clear z0 z1 s0 s1 s2
        generalize w9.drew = w10 at B3 B7 HB hHeld ⊢
        refine Sq.pv 0 221 1 HT_ ?_
        refine Sq.pv 1 222 3 HT_ ?_
        refine Sq.pv 2 223 7 HT_ ?_
        refine Sq.pv 3 224 15 HT_ ?_
        refine Sq.tv 4 225 31 HT_ HW_ hHeld ?_
        refine Sq.pv 5 226 63 HT_ ?_
        refine Sq.pv 6 227 127 HT_ ?_
        refine Sq.pv 7 228 255 HT_ ?_
        refine Sq.pv 8 229 511 HT_ ?_
        refine Sq.pv 9 230 1023 HT_ ?_
        refine Sq.pv 10 231 2047 HT_ ?_
        refine Sq.nv 11 232 4095 HT_ ?_
        refine Sq.nv 12 233 8191 HT_ ?_
        refine Sq.nv 13 234 16383 HT_ ?_
        refine Sq.nv 14 235 32767 HT_ ?_
        refine Sq.nv 15 236 65535 HT_ ?_
        refine Sq.nv 16 237 131071 HT_ ?_
        refine Sq.nv 17 238 262143 HT_ ?_
        refine Sq.nv 18 239 524287 HT_ ?_
        refine Sq.nv 19 240 1048575 HT_ ?_
        refine Sq.nv 20 241 2097151 HT_ ?_
        refine Sq.pv 21 242 4194303 HT_ ?_
        refine Sq.pv 22 243 8388607 HT_ ?_
        refine Sq.pv 23 244 16777215 HT_ ?_
        refine Sq.pv 24 245 33554431 HT_ ?_
        refine Sq.pv 25 246 67108863 HT_ ?_
        refine Sq.pv 26 247 134217727 HT_ ?_
        refine Sq.pv 27 248 268435455 HT_ ?_
        refine Sq.pv 28 249 536870911 HT_ ?_
        refine Sq.pv 29 250 1073741823 HT_ ?_
        refine Sq.pv 30 251 2147483647 HT_ ?_
        refine Sq.pv 31 252 4294967295 HT_ ?_
        refine Sq.pv 32 253 8589934591 HT_ ?_
        refine Sq.pv 34 255 25769803775 HT_ ?_
        refine Sq.tv 33 254 34359738367 HT_ HW_ hHeld ?_
        refine one_ (i := 35) (N := some 256) (bm 38 68719476735) rfl rfl (one_of HT_.out (by kernel_rfl)) (by decide) (fun K hK => ?_)
        refine goes_ Try.func25 (by kernel_rfl) rfl #[.int .i64 At, .int .i64 a1] (by rfl) rfl rfl (by (try simp only [List.map_toArray, List.map_cons, List.map_nil]); first | done | rfl) ?_
        refine (rr_fits At a1 (by rw [← HA1.out]; exact H48.out) w10 0).mono ?_
        rintro e w' ⟨rfl, ⟨nd, rfl⟩⟩
        rw [c5q]
        refine ⟨_, rfl, ?_⟩
        refine hK.out _ _ hHeld (fun hHeld => ?_)
        clear hK K
        refine norm_ (a' := ?_) ?_ ?_
        rotate_left
        ·
         show Act.put _ (some 256) _ = _
         simp only [Act.put, List.setIfInBounds_toArray, List.set_cons_zero, List.set_cons_succ, i64_w, i32_w]
         rfl
        refine Sq.pv 36 257 137438953471 HT_ ?_
        refine Sq.pv 37 258 274877906943 HT_ ?_
        refine done_ (done_of HT_.out (by kernel_rfl)) ?_
        go_wp2
        go_ret
        exact ⟨by rw [← HRES.out, rb_leap hlt (HOK.out.trans (by rw [DLE, c5]; simp))]; rfl, (by first | exact HB.out | exact pw_below_drewN HB.out _)⟩
      have hjk : lokB a2 a1_ l0_2 k = true := HOK.out.trans (by rw [DLE, c5]; rfl)
      as_aux_lemma =>
       refine start_ (n := 38) (S := fun w' => w'.cell? ⟨g7, 0, none⟩ = some (.int .i64 At) ∧ w'.cell? ⟨g7, 1, none⟩ = some (.int .i64 Co) ∧ w'.cell? ⟨g3, 0, none⟩ = some (.slice A0_0 l0_0.length c0_0) ∧ w'.cell? ⟨g3, 1, none⟩ = some (.slice A0_1 l0_1.length c0_1) ∧ w'.cell? ⟨g3, 2, none⟩ = some (.slice (some ad) l0_2.length c0_2)) (ds := []) (Sq.bm 38 0) (by kernel_rfl) rfl (by kernel_rfl) ⟨z0, z1, s0, s1, s2⟩ (fun hHeld => ?_); refine with_tabW longcaseref06_Right.tab33 longcaseref06_Right.bits33 (fun HT_ HW_ => ?_)
       replace B3 := Aside0.mk (blk_drew B3.out)
       replace B7 := Aside0.mk (blk_drew B7.out)
       replace HB := Aside0.mk (below_drew1 HB.out)
       clear z0 z1 s0 s1 s2
       generalize w9.drew = w10 at B3 B7 HB hHeld ⊢
       refine Sq.pv 0 221 1 HT_ ?_
       refine Sq.pv 1 222 3 HT_ ?_
       refine Sq.pv 2 223 7 HT_ ?_
       refine Sq.pv 3 224 15 HT_ ?_
       refine Sq.tv 4 225 31 HT_ HW_ hHeld ?_
       refine Sq.pv 5 226 63 HT_ ?_
       refine Sq.pv 6 227 127 HT_ ?_
       refine Sq.pv 7 228 255 HT_ ?_
       refine Sq.pv 8 229 511 HT_ ?_
       refine Sq.pv 9 230 1023 HT_ ?_
       refine Sq.pv 10 231 2047 HT_ ?_
       refine Sq.nv 11 232 4095 HT_ ?_
       refine Sq.nv 12 233 8191 HT_ ?_
       refine Sq.nv 13 234 16383 HT_ ?_
       refine Sq.nv 14 235 32767 HT_ ?_
       refine Sq.nv 15 236 65535 HT_ ?_
       refine Sq.nv 16 237 131071 HT_ ?_
       refine Sq.nv 17 238 262143 HT_ ?_
       refine Sq.nv 18 239 524287 HT_ ?_
       refine Sq.nv 19 240 1048575 HT_ ?_
       refine Sq.nv 20 241 2097151 HT_ ?_
       refine Sq.pv 21 242 4194303 HT_ ?_
       refine Sq.pv 22 243 8388607 HT_ ?_
       refine Sq.pv 23 244 16777215 HT_ ?_
       refine Sq.pv 24 245 33554431 HT_ ?_
       refine Sq.pv 25 246 67108863 HT_ ?_
       refine Sq.pv 26 247 134217727 HT_ ?_
       refine Sq.pv 27 248 268435455 HT_ ?_
       refine Sq.pv 28 249 536870911 HT_ ?_
       refine Sq.pv 29 250 1073741823 HT_ ?_
       refine Sq.pv 30 251 2147483647 HT_ ?_
       refine Sq.pv 31 252 4294967295 HT_ ?_
       refine Sq.pv 32 253 8589934591 HT_ ?_
       refine Sq.pv 34 255 25769803775 HT_ ?_
       refine Sq.tv 33 254 34359738367 HT_ HW_ hHeld ?_
       refine one_ (i := 35) (N := some 256) (bm 38 68719476735) rfl rfl (one_of HT_.out (by kernel_rfl)) (by decide) (fun K hK => ?_)
       refine goes_ Try.func25 (by kernel_rfl) rfl #[.int .i64 At, .int .i64 a1] (by rfl) rfl rfl (by (try simp only [List.map_toArray, List.map_cons, List.map_nil]); first | done | rfl) ?_
       refine (rr_fits At a1 (by rw [← HA1.out]; exact H48.out) w10 0).mono ?_
       rintro e w' ⟨rfl, ⟨nd, rfl⟩⟩
       rw [c5q]
       refine ⟨_, rfl, ?_⟩
       refine hK.out _ _ hHeld (fun hHeld => ?_)
       clear hK K
       refine norm_ (a' := ?_) ?_ ?_
       rotate_left
       ·
        show Act.put _ (some 256) _ = _
        simp only [Act.put, List.setIfInBounds_toArray, List.set_cons_zero, List.set_cons_succ, i64_w, i32_w]
        rfl
       refine Sq.pv 36 257 137438953471 HT_ ?_
       refine Sq.pv 37 258 274877906943 HT_ ?_
       refine done_ (done_of HT_.out (by kernel_rfl)) ?_
       go_wp2
       go_roundw
       case rel => exact ⟨k + 1, by omega, by rw [HWN.out], by go_num, ⟨fun j hj => by rcases Nat.lt_succ_iff_lt_or_eq.1 hj with h | rfl; exact HA.out j h; exact hjk⟩, B3, ⟨(by first | exact HB.out | exact pw_below_drewN HB.out _)⟩⟩
       case measure => simp [intOf]; omega
     obtain ⟨fv, hfv⟩ : ∃ x, x = fitsB At a1_ := ⟨_, rfl⟩
     have c5q := hfv.symm
     rw [HA1.out] at c5q
     have c5 := hfv.symm
     clear hfv
     cases fv
     ·
      as_aux_lemma =>
       refine start_ (n := 38) (S := fun w' => w'.cell? ⟨g7, 0, none⟩ = some (.int .i64 At) ∧ w'.cell? ⟨g7, 1, none⟩ = some (.int .i64 Co) ∧ w'.cell? ⟨g3, 0, none⟩ = some (.slice A0_0 l0_0.length c0_0) ∧ w'.cell? ⟨g3, 1, none⟩ = some (.slice A0_1 l0_1.length c0_1) ∧ w'.cell? ⟨g3, 2, none⟩ = some (.slice (some ad) l0_2.length c0_2)) (ds := []) (Sq.bm 38 0) (by kernel_rfl) rfl (by kernel_rfl) ⟨z0, z1, s0, s1, s2⟩ (fun hHeld => ?_); refine with_tabW longcaseref06_Right.tab33 longcaseref06_Right.bits33 (fun HT_ HW_ => ?_)
       replace B3 := Aside0.mk (blk_drew B3.out)
       replace B7 := Aside0.mk (blk_drew B7.out)
       replace HB := Aside0.mk (below_drew1 HB.out)
       clear z0 z1 s0 s1 s2
       generalize w9.drew = w10 at B3 B7 HB hHeld ⊢
       refine Sq.pv 0 221 1 HT_ ?_
       refine Sq.pv 1 222 3 HT_ ?_
       refine Sq.pv 2 223 7 HT_ ?_
       refine Sq.pv 3 224 15 HT_ ?_
       refine Sq.tv 4 225 31 HT_ HW_ hHeld ?_
       refine Sq.pv 5 226 63 HT_ ?_
       refine Sq.pv 6 227 127 HT_ ?_
       refine Sq.pv 7 228 255 HT_ ?_
       refine Sq.pv 8 229 511 HT_ ?_
       refine Sq.pv 9 230 1023 HT_ ?_
       refine Sq.pv 10 231 2047 HT_ ?_
       refine Sq.nv 11 232 4095 HT_ ?_
       refine Sq.nv 12 233 8191 HT_ ?_
       refine Sq.nv 13 234 16383 HT_ ?_
       refine Sq.nv 14 235 32767 HT_ ?_
       refine Sq.nv 15 236 65535 HT_ ?_
       refine Sq.nv 16 237 131071 HT_ ?_
       refine Sq.nv 17 238 262143 HT_ ?_
       refine Sq.nv 18 239 524287 HT_ ?_
       refine Sq.nv 19 240 1048575 HT_ ?_
       refine Sq.nv 20 241 2097151 HT_ ?_
       refine Sq.pv 21 242 4194303 HT_ ?_
       refine Sq.pv 22 243 8388607 HT_ ?_
       refine Sq.pv 23 244 16777215 HT_ ?_
       refine Sq.pv 24 245 33554431 HT_ ?_
       refine Sq.pv 25 246 67108863 HT_ ?_
       refine Sq.pv 26 247 134217727 HT_ ?_
       refine Sq.nv 27 248 268435455 HT_ ?_
       refine Sq.nv 28 249 536870911 HT_ ?_
       refine Sq.pv 29 250 1073741823 HT_ ?_
       refine Sq.pv 30 251 2147483647 HT_ ?_
       refine Sq.pv 31 252 4294967295 HT_ ?_
       refine Sq.pv 32 253 8589934591 HT_ ?_
       refine Sq.pv 34 255 25769803775 HT_ ?_
       refine Sq.tv 33 254 34359738367 HT_ HW_ hHeld ?_
       refine one_ (i := 35) (N := some 256) (bm 38 68719476735) rfl rfl (one_of HT_.out (by kernel_rfl)) (by decide) (fun K hK => ?_)
       refine goes_ Try.func25 (by kernel_rfl) rfl #[.int .i64 At, .int .i64 a1] (by rfl) rfl rfl (by (try simp only [List.map_toArray, List.map_cons, List.map_nil]); first | done | rfl) ?_
       refine (rr_fits At a1 (by rw [← HA1.out]; exact H48.out) w10 0).mono ?_
       rintro e w' ⟨rfl, ⟨nd, rfl⟩⟩
       rw [c5q]
       refine ⟨_, rfl, ?_⟩
       refine hK.out _ _ hHeld (fun hHeld => ?_)
       clear hK K
       refine norm_ (a' := ?_) ?_ ?_
       rotate_left
       ·
        show Act.put _ (some 256) _ = _
        simp only [Act.put, List.setIfInBounds_toArray, List.set_cons_zero, List.set_cons_succ, i64_w, i32_w]
        rfl
       refine Sq.pv 36 257 137438953471 HT_ ?_
       refine Sq.pv 37 258 274877906943 HT_ ?_
       refine done_ (done_of HT_.out (by kernel_rfl)) ?_
       go_wp2
       go_ret
       exact ⟨by rw [← HRES.out, rb_leap hlt (HOK.out.trans (by rw [DLE, c5]; simp))]; rfl, (by first | exact HB.out | exact pw_below_drewN HB.out _)⟩
     have hjk : lokB a2 a1_ l0_2 k = true := HOK.out.trans (by rw [DLE, c5]; rfl)
     as_aux_lemma =>
      refine start_ (n := 38) (S := fun w' => w'.cell? ⟨g7, 0, none⟩ = some (.int .i64 At) ∧ w'.cell? ⟨g7, 1, none⟩ = some (.int .i64 Co) ∧ w'.cell? ⟨g3, 0, none⟩ = some (.slice A0_0 l0_0.length c0_0) ∧ w'.cell? ⟨g3, 1, none⟩ = some (.slice A0_1 l0_1.length c0_1) ∧ w'.cell? ⟨g3, 2, none⟩ = some (.slice (some ad) l0_2.length c0_2)) (ds := []) (Sq.bm 38 0) (by kernel_rfl) rfl (by kernel_rfl) ⟨z0, z1, s0, s1, s2⟩ (fun hHeld => ?_); refine with_tabW longcaseref06_Right.tab33 longcaseref06_Right.bits33 (fun HT_ HW_ => ?_)
      replace B3 := Aside0.mk (blk_drew B3.out)
      replace B7 := Aside0.mk (blk_drew B7.out)
      replace HB := Aside0.mk (below_drew1 HB.out)
      clear z0 z1 s0 s1 s2
      generalize w9.drew = w10 at B3 B7 HB hHeld ⊢
      refine Sq.pv 0 221 1 HT_ ?_
      refine Sq.pv 1 222 3 HT_ ?_
      refine Sq.pv 2 223 7 HT_ ?_
      refine Sq.pv 3 224 15 HT_ ?_
      refine Sq.tv 4 225 31 HT_ HW_ hHeld ?_
      refine Sq.pv 5 226 63 HT_ ?_
      refine Sq.pv 6 227 127 HT_ ?_
      refine Sq.pv 7 228 255 HT_ ?_
      refine Sq.pv 8 229 511 HT_ ?_
      refine Sq.pv 9 230 1023 HT_ ?_
      refine Sq.pv 10 231 2047 HT_ ?_
      refine Sq.nv 11 232 4095 HT_ ?_
      refine Sq.nv 12 233 8191 HT_ ?_
      refine Sq.nv 13 234 16383 HT_ ?_
      refine Sq.nv 14 235 32767 HT_ ?_
      refine Sq.nv 15 236 65535 HT_ ?_
      refine Sq.nv 16 237 131071 HT_ ?_
      refine Sq.nv 17 238 262143 HT_ ?_
      refine Sq.nv 18 239 524287 HT_ ?_
      refine Sq.nv 19 240 1048575 HT_ ?_
      refine Sq.nv 20 241 2097151 HT_ ?_
      refine Sq.pv 21 242 4194303 HT_ ?_
      refine Sq.pv 22 243 8388607 HT_ ?_
      refine Sq.pv 23 244 16777215 HT_ ?_
      refine Sq.pv 24 245 33554431 HT_ ?_
      refine Sq.pv 25 246 67108863 HT_ ?_
      refine Sq.pv 26 247 134217727 HT_ ?_
      refine Sq.nv 27 248 268435455 HT_ ?_
      refine Sq.nv 28 249 536870911 HT_ ?_
      refine Sq.pv 29 250 1073741823 HT_ ?_
      refine Sq.pv 30 251 2147483647 HT_ ?_
      refine Sq.pv 31 252 4294967295 HT_ ?_
      refine Sq.pv 32 253 8589934591 HT_ ?_
      refine Sq.pv 34 255 25769803775 HT_ ?_
      refine Sq.tv 33 254 34359738367 HT_ HW_ hHeld ?_
      refine one_ (i := 35) (N := some 256) (bm 38 68719476735) rfl rfl (one_of HT_.out (by kernel_rfl)) (by decide) (fun K hK => ?_)
      refine goes_ Try.func25 (by kernel_rfl) rfl #[.int .i64 At, .int .i64 a1] (by rfl) rfl rfl (by (try simp only [List.map_toArray, List.map_cons, List.map_nil]); first | done | rfl) ?_
      refine (rr_fits At a1 (by rw [← HA1.out]; exact H48.out) w10 0).mono ?_
      rintro e w' ⟨rfl, ⟨nd, rfl⟩⟩
      rw [c5q]
      refine ⟨_, rfl, ?_⟩
      refine hK.out _ _ hHeld (fun hHeld => ?_)
      clear hK K
      refine norm_ (a' := ?_) ?_ ?_
      rotate_left
      ·
       show Act.put _ (some 256) _ = _
       simp only [Act.put, List.setIfInBounds_toArray, List.set_cons_zero, List.set_cons_succ, i64_w, i32_w]
       rfl
      refine Sq.pv 36 257 137438953471 HT_ ?_
      refine Sq.pv 37 258 274877906943 HT_ ?_
      refine done_ (done_of HT_.out (by kernel_rfl)) ?_
      go_wp2
      go_roundw
      case rel => exact ⟨k + 1, by omega, by rw [HWN.out], by go_num, ⟨fun j hj => by rcases Nat.lt_succ_iff_lt_or_eq.1 hj with h | rfl; exact HA.out j h; exact hjk⟩, B3, ⟨(by first | exact HB.out | exact pw_below_drewN HB.out _)⟩⟩
      case measure => simp [intOf]; omega
    have dk0 : ((k : Int) == 0) = false := beq_eq_false_iff_ne.2 (by omega)
    have dkp : decide (0 < (k : Int)) = true := decide_eq_true (by omega)
    have dkn : decide (0 < k) = true := decide_eq_true (by omega)
    have hw : IntKind.i64.wrap ((k : Int) - 1) = (k : Int) - 1 := by rw [IntKind.wrap_i64]; omega
    have e0 : (0 ≤ IntKind.i64.wrap ((k : Int) - 1)) = True := eq_true (by rw [hw]; omega)
    have e1 : (IntKind.i64.wrap ((k : Int) - 1) < (l0_2.length : Int)) = True := eq_true (by rw [hw]; omega)
    obtain ⟨ad2, eA2, hp0, hp1⟩ := at_T67 HR2.out (IntKind.i64.wrap ((k : Int) - 1)) (by rw [hw]; omega) (by rw [hw]; omega)
    cases eA2
    replace hp0 := (HB.out.cell (World.block_lt_of_cell? w _ hp0)).trans hp0
    clear hp1
    have hWa2 : (rd_T67 l0_2 (IntKind.i64.wrap ((k : Int) - 1))).f0 = Wa := by
     rw [hw, HWA.out]
     unfold wasL
     rw [if_neg k0]
     show (rd_T67 l0_2 ((k : Int) - 1)).f0 = (rd_T67 l0_2 ((k - 1 : Nat) : Int)).f0
     rw [show ((k : Int) - 1) = ((k - 1 : Nat) : Int) by omega]
    rw [hWa2] at hp0
    clear hWa2 hw
    by_cases cA : At ≤ Wa
    ·
     have dA : decide (At ≤ Wa) = true := decide_eq_true cA
     as_aux_lemma =>
      have e0w := e0
      have e1w := e1
      rw [i64_w] at e0w e1w
      refine start_ (n := 38) (S := fun w' => w'.cell? ⟨g7, 0, none⟩ = some (.int .i64 At) ∧ w'.cell? ⟨g7, 1, none⟩ = some (.int .i64 Co) ∧ w'.cell? ⟨g3, 0, none⟩ = some (.slice A0_0 l0_0.length c0_0) ∧ w'.cell? ⟨g3, 1, none⟩ = some (.slice A0_1 l0_1.length c0_1) ∧ w'.cell? ⟨g3, 2, none⟩ = some (.slice (some ad) l0_2.length c0_2) ∧ w'.cell? (ad.add ((wrap64 ((k : Int) - 1)).toNat * 2)) = some (.int .i64 Wa)) (ds := []) (Sq.bm 38 0) (by kernel_rfl) rfl (by kernel_rfl) ⟨z0, z1, s0, s1, s2, (by rw [← i64_w]; exact hp0)⟩ (fun hHeld => ?_); refine with_tabW longcaseref06_Right.tab33 longcaseref06_Right.bits33 (fun HT_ HW_ => ?_)
      replace B3 := Aside0.mk (blk_drew B3.out)
      replace B7 := Aside0.mk (blk_drew B7.out)
      replace HB := Aside0.mk (below_drew1 HB.out)
      clear z0 z1 s0 s1 s2 hp0 e0 e1
      generalize w9.drew = w10 at B3 B7 HB hHeld ⊢
      refine Sq.pv 0 221 1 HT_ ?_
      refine Sq.pv 1 222 3 HT_ ?_
      refine Sq.pv 2 223 7 HT_ ?_
      refine Sq.nv 3 224 15 HT_ ?_
      refine Sq.nv 4 225 31 HT_ ?_
      refine Sq.nv 5 226 63 HT_ ?_
      refine Sq.pv 6 227 127 HT_ ?_
      refine Sq.pv 7 228 255 HT_ ?_
      refine Sq.pv 8 229 511 HT_ ?_
      refine Sq.pv 9 230 1023 HT_ ?_
      refine Sq.pv 10 231 2047 HT_ ?_
      refine Sq.pv 11 232 4095 HT_ ?_
      refine Sq.pv 13 234 12287 HT_ ?_
      refine Sq.pv 15 236 45055 HT_ ?_
      refine Sq.pv 16 237 110591 HT_ ?_
      refine Sq.tv 12 233 114687 HT_ HW_ hHeld ?_
      refine Sq.tv 14 235 131071 HT_ HW_ hHeld ?_
      refine Sq.pv 17 238 262143 HT_ ?_
      refine Sq.pv 18 239 524287 HT_ ?_
      refine Sq.tv 19 240 1048575 HT_ HW_ hHeld ?_
      refine Sq.pv 20 241 2097151 HT_ ?_
      refine Sq.pv 21 242 4194303 HT_ ?_
      refine Sq.pv 22 243 8388607 HT_ ?_
      refine Sq.pv 23 244 16777215 HT_ ?_
      refine Sq.nv 24 245 33554431 HT_ ?_
      refine Sq.nv 25 246 67108863 HT_ ?_
      refine Sq.nv 26 247 134217727 HT_ ?_
      refine Sq.nv 27 248 268435455 HT_ ?_
      refine Sq.nv 28 249 536870911 HT_ ?_
      refine Sq.nv 29 250 1073741823 HT_ ?_
      refine Sq.pv 30 251 2147483647 HT_ ?_
      refine Sq.pv 31 252 4294967295 HT_ ?_
      refine Sq.nv 32 253 8589934591 HT_ ?_
      refine Sq.nv 33 254 17179869183 HT_ ?_
      refine Sq.nv 34 255 34359738367 HT_ ?_
      refine Sq.nv 35 256 68719476735 HT_ ?_
      refine Sq.nv 36 257 137438953471 HT_ ?_
      refine Sq.pv 37 258 274877906943 HT_ ?_
      refine done_ (done_of HT_.out (by kernel_rfl)) ?_
      go_wp2
      go_ret
      exact ⟨by rw [← HRES.out, rb_leap hlt (HOK.out.trans (by rw [dA]; rfl))]; rfl, (by first | exact HB.out | exact pw_below_drewN HB.out _)⟩
    have DLE : decide (At ≤ Wa) = false := decide_eq_false cA
    cases On
    ·
     cases La
     ·
      as_aux_lemma =>
       have e0w := e0
       have e1w := e1
       rw [i64_w] at e0w e1w
       refine start_ (n := 38) (S := fun w' => w'.cell? ⟨g7, 0, none⟩ = some (.int .i64 At) ∧ w'.cell? ⟨g7, 1, none⟩ = some (.int .i64 Co) ∧ w'.cell? ⟨g3, 0, none⟩ = some (.slice A0_0 l0_0.length c0_0) ∧ w'.cell? ⟨g3, 1, none⟩ = some (.slice A0_1 l0_1.length c0_1) ∧ w'.cell? ⟨g3, 2, none⟩ = some (.slice (some ad) l0_2.length c0_2) ∧ w'.cell? (ad.add ((wrap64 ((k : Int) - 1)).toNat * 2)) = some (.int .i64 Wa)) (ds := []) (Sq.bm 38 0) (by kernel_rfl) rfl (by kernel_rfl) ⟨z0, z1, s0, s1, s2, (by rw [← i64_w]; exact hp0)⟩ (fun hHeld => ?_); refine with_tabW longcaseref06_Right.tab33 longcaseref06_Right.bits33 (fun HT_ HW_ => ?_)
       replace B3 := Aside0.mk (blk_drew B3.out)
       replace B7 := Aside0.mk (blk_drew B7.out)
       replace HB := Aside0.mk (below_drew1 HB.out)
       clear z0 z1 s0 s1 s2 hp0 e0 e1
       generalize w9.drew = w10 at B3 B7 HB hHeld ⊢
       refine Sq.pv 0 221 1 HT_ ?_
       refine Sq.pv 1 222 3 HT_ ?_
       refine Sq.pv 2 223 7 HT_ ?_
       refine Sq.nv 3 224 15 HT_ ?_
       refine Sq.nv 4 225 31 HT_ ?_
       refine Sq.nv 5 226 63 HT_ ?_
       refine Sq.pv 6 227 127 HT_ ?_
       refine Sq.pv 7 228 255 HT_ ?_
       refine Sq.pv 8 229 511 HT_ ?_
       refine Sq.pv 9 230 1023 HT_ ?_
       refine Sq.pv 10 231 2047 HT_ ?_
       refine Sq.pv 11 232 4095 HT_ ?_
       refine Sq.pv 13 234 12287 HT_ ?_
       refine Sq.pv 15 236 45055 HT_ ?_
       refine Sq.pv 16 237 110591 HT_ ?_
       refine Sq.tv 12 233 114687 HT_ HW_ hHeld ?_
       refine Sq.tv 14 235 131071 HT_ HW_ hHeld ?_
       refine Sq.pv 17 238 262143 HT_ ?_
       refine Sq.pv 18 239 524287 HT_ ?_
       refine Sq.tv 19 240 1048575 HT_ HW_ hHeld ?_
       refine Sq.pv 20 241 2097151 HT_ ?_
       refine Sq.pv 21 242 4194303 HT_ ?_
       refine Sq.pv 22 243 8388607 HT_ ?_
       refine Sq.pv 23 244 16777215 HT_ ?_
       refine Sq.pv 24 245 33554431 HT_ ?_
       refine Sq.pv 25 246 67108863 HT_ ?_
       refine Sq.pv 26 247 134217727 HT_ ?_
       refine Sq.pv 27 248 268435455 HT_ ?_
       refine Sq.pv 28 249 536870911 HT_ ?_
       refine Sq.pv 29 250 1073741823 HT_ ?_
       refine Sq.pv 30 251 2147483647 HT_ ?_
       refine Sq.pv 31 252 4294967295 HT_ ?_
       refine Sq.nv 32 253 8589934591 HT_ ?_
       refine Sq.nv 33 254 17179869183 HT_ ?_
       refine Sq.nv 34 255 34359738367 HT_ ?_
       refine Sq.nv 35 256 68719476735 HT_ ?_
       refine Sq.nv 36 257 137438953471 HT_ ?_
       refine Sq.pv 37 258 274877906943 HT_ ?_
       refine done_ (done_of HT_.out (by kernel_rfl)) ?_
       go_wp2
       go_ret
       exact ⟨by rw [← HRES.out, rb_leap hlt (HOK.out.trans (by rw [DLE]; simp))]; rfl, (by first | exact HB.out | exact pw_below_drewN HB.out _)⟩
     obtain ⟨fv, hfv⟩ : ∃ x, x = fitsB At a1_ := ⟨_, rfl⟩
     have c5q := hfv.symm
     rw [HA1.out] at c5q
     have c5 := hfv.symm
     clear hfv
     cases fv
     ·
      as_aux_lemma =>
       have e0w := e0
       have e1w := e1
       rw [i64_w] at e0w e1w
       refine start_ (n := 38) (S := fun w' => w'.cell? ⟨g7, 0, none⟩ = some (.int .i64 At) ∧ w'.cell? ⟨g7, 1, none⟩ = some (.int .i64 Co) ∧ w'.cell? ⟨g3, 0, none⟩ = some (.slice A0_0 l0_0.length c0_0) ∧ w'.cell? ⟨g3, 1, none⟩ = some (.slice A0_1 l0_1.length c0_1) ∧ w'.cell? ⟨g3, 2, none⟩ = some (.slice (some ad) l0_2.length c0_2) ∧ w'.cell? (ad.add ((wrap64 ((k : Int) - 1)).toNat * 2)) = some (.int .i64 Wa)) (ds := []) (Sq.bm 38 0) (by kernel_rfl) rfl (by kernel_rfl) ⟨z0, z1, s0, s1, s2, (by rw [← i64_w]; exact hp0)⟩ (fun hHeld => ?_); refine with_tabW longcaseref06_Right.tab33 longcaseref06_Right.bits33 (fun HT_ HW_ => ?_)
       replace B3 := Aside0.mk (blk_drew B3.out)
       replace B7 := Aside0.mk (blk_drew B7.out)
       replace HB := Aside0.mk (below_drew1 HB.out)
       clear z0 z1 s0 s1 s2 hp0 e0 e1
       generalize w9.drew = w10 at B3 B7 HB hHeld ⊢
       refine Sq.pv 0 221 1 HT_ ?_
       refine Sq.pv 1 222 3 HT_ ?_
       refine Sq.pv 2 223 7 HT_ ?_
       refine Sq.nv 3 224 15 HT_ ?_
       refine Sq.nv 4 225 31 HT_ ?_
       refine Sq.nv 5 226 63 HT_ ?_
       refine Sq.pv 6 227 127 HT_ ?_
       refine Sq.pv 7 228 255 HT_ ?_
       refine Sq.pv 8 229 511 HT_ ?_
       refine Sq.pv 9 230 1023 HT_ ?_
       refine Sq.pv 10 231 2047 HT_ ?_
       refine Sq.pv 11 232 4095 HT_ ?_
       refine Sq.pv 13 234 12287 HT_ ?_
       refine Sq.pv 15 236 45055 HT_ ?_
       refine Sq.pv 16 237 110591 HT_ ?_
       refine Sq.tv 12 233 114687 HT_ HW_ hHeld ?_
       refine Sq.tv 14 235 131071 HT_ HW_ hHeld ?_
       refine Sq.pv 17 238 262143 HT_ ?_
       refine Sq.pv 18 239 524287 HT_ ?_
       refine Sq.tv 19 240 1048575 HT_ HW_ hHeld ?_
       refine Sq.pv 20 241 2097151 HT_ ?_
       refine Sq.pv 21 242 4194303 HT_ ?_
       refine Sq.pv 22 243 8388607 HT_ ?_
       refine Sq.pv 23 244 16777215 HT_ ?_
       refine Sq.pv 24 245 33554431 HT_ ?_
       refine Sq.pv 25 246 67108863 HT_ ?_
       refine Sq.pv 26 247 134217727 HT_ ?_
       refine Sq.pv 27 248 268435455 HT_ ?_
       refine Sq.pv 28 249 536870911 HT_ ?_
       refine Sq.pv 29 250 1073741823 HT_ ?_
       refine Sq.pv 30 251 2147483647 HT_ ?_
       refine Sq.pv 31 252 4294967295 HT_ ?_
       refine Sq.pv 32 253 8589934591 HT_ ?_
       refine Sq.pv 34 255 25769803775 HT_ ?_
       refine Sq.tv 33 254 34359738367 HT_ HW_ hHeld ?_
       refine one_ (i := 35) (N := some 256) (bm 38 68719476735) rfl rfl (one_of HT_.out (by kernel_rfl)) (by decide) (fun K hK => ?_)
       refine goes_ Try.func25 (by kernel_rfl) rfl #[.int .i64 At, .int .i64 a1] (by rfl) rfl rfl (by (try simp only [List.map_toArray, List.map_cons, List.map_nil]); first | done | rfl) ?_
       refine (rr_fits At a1 (by rw [← HA1.out]; exact H48.out) w10 0).mono ?_
       rintro e w' ⟨rfl, ⟨nd, rfl⟩⟩
       rw [c5q]
       refine ⟨_, rfl, ?_⟩
       refine hK.out _ _ hHeld (fun hHeld => ?_)
       clear hK K
       refine norm_ (a' := ?_) ?_ ?_
       rotate_left
       ·
        show Act.put _ (some 256) _ = _
        simp only [Act.put, List.setIfInBounds_toArray, List.set_cons_zero, List.set_cons_succ, i64_w, i32_w]
        rfl
       refine Sq.pv 36 257 137438953471 HT_ ?_
       refine Sq.pv 37 258 274877906943 HT_ ?_
       refine done_ (done_of HT_.out (by kernel_rfl)) ?_
       go_wp2
       go_ret
       exact ⟨by rw [← HRES.out, rb_leap hlt (HOK.out.trans (by rw [DLE, c5]; simp))]; rfl, (by first | exact HB.out | exact pw_below_drewN HB.out _)⟩
     have hjk : lokB a2 a1_ l0_2 k = true := HOK.out.trans (by rw [DLE, c5]; rfl)
     as_aux_lemma =>
      have e0w := e0
      have e1w := e1
      rw [i64_w] at e0w e1w
      refine start_ (n := 38) (S := fun w' => w'.cell? ⟨g7, 0, none⟩ = some (.int .i64 At) ∧ w'.cell? ⟨g7, 1, none⟩ = some (.int .i64 Co) ∧ w'.cell? ⟨g3, 0, none⟩ = some (.slice A0_0 l0_0.length c0_0) ∧ w'.cell? ⟨g3, 1, none⟩ = some (.slice A0_1 l0_1.length c0_1) ∧ w'.cell? ⟨g3, 2, none⟩ = some (.slice (some ad) l0_2.length c0_2) ∧ w'.cell? (ad.add ((wrap64 ((k : Int) - 1)).toNat * 2)) = some (.int .i64 Wa)) (ds := []) (Sq.bm 38 0) (by kernel_rfl) rfl (by kernel_rfl) ⟨z0, z1, s0, s1, s2, (by rw [← i64_w]; exact hp0)⟩ (fun hHeld => ?_); refine with_tabW longcaseref06_Right.tab33 longcaseref06_Right.bits33 (fun HT_ HW_ => ?_)
      replace B3 := Aside0.mk (blk_drew B3.out)
      replace B7 := Aside0.mk (blk_drew B7.out)
      replace HB := Aside0.mk (below_drew1 HB.out)
      clear z0 z1 s0 s1 s2 hp0 e0 e1
      generalize w9.drew = w10 at B3 B7 HB hHeld ⊢
      refine Sq.pv 0 221 1 HT_ ?_
      refine Sq.pv 1 222 3 HT_ ?_
      refine Sq.pv 2 223 7 HT_ ?_
      refine Sq.nv 3 224 15 HT_ ?_
      refine Sq.nv 4 225 31 HT_ ?_
      refine Sq.nv 5 226 63 HT_ ?_
      refine Sq.pv 6 227 127 HT_ ?_
      refine Sq.pv 7 228 255 HT_ ?_
      refine Sq.pv 8 229 511 HT_ ?_
      refine Sq.pv 9 230 1023 HT_ ?_
      refine Sq.pv 10 231 2047 HT_ ?_
      refine Sq.pv 11 232 4095 HT_ ?_
      refine Sq.pv 13 234 12287 HT_ ?_
      refine Sq.pv 15 236 45055 HT_ ?_
      refine Sq.pv 16 237 110591 HT_ ?_
      refine Sq.tv 12 233 114687 HT_ HW_ hHeld ?_
      refine Sq.tv 14 235 131071 HT_ HW_ hHeld ?_
      refine Sq.pv 17 238 262143 HT_ ?_
      refine Sq.pv 18 239 524287 HT_ ?_
      refine Sq.tv 19 240 1048575 HT_ HW_ hHeld ?_
      refine Sq.pv 20 241 2097151 HT_ ?_
      refine Sq.pv 21 242 4194303 HT_ ?_
      refine Sq.pv 22 243 8388607 HT_ ?_
      refine Sq.pv 23 244 16777215 HT_ ?_
      refine Sq.pv 24 245 33554431 HT_ ?_
      refine Sq.pv 25 246 67108863 HT_ ?_
      refine Sq.pv 26 247 134217727 HT_ ?_
      refine Sq.pv 27 248 268435455 HT_ ?_
      refine Sq.pv 28 249 536870911 HT_ ?_
      refine Sq.pv 29 250 1073741823 HT_ ?_
      refine Sq.pv 30 251 2147483647 HT_ ?_
      refine Sq.pv 31 252 4294967295 HT_ ?_
      refine Sq.pv 32 253 8589934591 HT_ ?_
      refine Sq.pv 34 255 25769803775 HT_ ?_
      refine Sq.tv 33 254 34359738367 HT_ HW_ hHeld ?_
      refine one_ (i := 35) (N := some 256) (bm 38 68719476735) rfl rfl (one_of HT_.out (by kernel_rfl)) (by decide) (fun K hK => ?_)
      refine goes_ Try.func25 (by kernel_rfl) rfl #[.int .i64 At, .int .i64 a1] (by rfl) rfl rfl (by (try simp only [List.map_toArray, List.map_cons, List.map_nil]); first | done | rfl) ?_
      refine (rr_fits At a1 (by rw [← HA1.out]; exact H48.out) w10 0).mono ?_
      rintro e w' ⟨rfl, ⟨nd, rfl⟩⟩
      rw [c5q]
      refine ⟨_, rfl, ?_⟩
      refine hK.out _ _ hHeld (fun hHeld => ?_)
      clear hK K
      refine norm_ (a' := ?_) ?_ ?_
      rotate_left
      ·
       show Act.put _ (some 256) _ = _
       simp only [Act.put, List.setIfInBounds_toArray, List.set_cons_zero, List.set_cons_succ, i64_w, i32_w]
       rfl
      refine Sq.pv 36 257 137438953471 HT_ ?_
      refine Sq.pv 37 258 274877906943 HT_ ?_
      refine done_ (done_of HT_.out (by kernel_rfl)) ?_
      go_wp2
      go_roundw
      case rel => exact ⟨k + 1, by omega, by rw [HWN.out], by go_num, ⟨fun j hj => by rcases Nat.lt_succ_iff_lt_or_eq.1 hj with h | rfl; exact HA.out j h; exact hjk⟩, B3, ⟨(by first | exact HB.out | exact pw_below_drewN HB.out _)⟩⟩
      case measure => simp [intOf]; omega
    obtain ⟨fv, hfv⟩ : ∃ x, x = fitsB At a1_ := ⟨_, rfl⟩
    have c5q := hfv.symm
    rw [HA1.out] at c5q
    have c5 := hfv.symm
    clear hfv
    cases fv
    ·
     as_aux_lemma =>
      have e0w := e0
      have e1w := e1
      rw [i64_w] at e0w e1w
      refine start_ (n := 38) (S := fun w' => w'.cell? ⟨g7, 0, none⟩ = some (.int .i64 At) ∧ w'.cell? ⟨g7, 1, none⟩ = some (.int .i64 Co) ∧ w'.cell? ⟨g3, 0, none⟩ = some (.slice A0_0 l0_0.length c0_0) ∧ w'.cell? ⟨g3, 1, none⟩ = some (.slice A0_1 l0_1.length c0_1) ∧ w'.cell? ⟨g3, 2, none⟩ = some (.slice (some ad) l0_2.length c0_2) ∧ w'.cell? (ad.add ((wrap64 ((k : Int) - 1)).toNat * 2)) = some (.int .i64 Wa)) (ds := []) (Sq.bm 38 0) (by kernel_rfl) rfl (by kernel_rfl) ⟨z0, z1, s0, s1, s2, (by rw [← i64_w]; exact hp0)⟩ (fun hHeld => ?_); refine with_tabW longcaseref06_Right.tab33 longcaseref06_Right.bits33 (fun HT_ HW_ => ?_)
      replace B3 := Aside0.mk (blk_drew B3.out)
      replace B7 := Aside0.mk (blk_drew B7.out)
      replace HB := Aside0.mk (below_drew1 HB.out)
      clear z0 z1 s0 s1 s2 hp0 e0 e1
      generalize w9.drew = w10 at B3 B7 HB hHeld ⊢
      refine Sq.pv 0 221 1 HT_ ?_
      refine Sq.pv 1 222 3 HT_ ?_
      refine Sq.pv 2 223 7 HT_ ?_
      refine Sq.nv 3 224 15 HT_ ?_
      refine Sq.nv 4 225 31 HT_ ?_
      refine Sq.nv 5 226 63 HT_ ?_
      refine Sq.pv 6 227 127 HT_ ?_
      refine Sq.pv 7 228 255 HT_ ?_
      refine Sq.pv 8 229 511 HT_ ?_
      refine Sq.pv 9 230 1023 HT_ ?_
      refine Sq.pv 10 231 2047 HT_ ?_
      refine Sq.pv 11 232 4095 HT_ ?_
      refine Sq.pv 13 234 12287 HT_ ?_
      refine Sq.pv 15 236 45055 HT_ ?_
      refine Sq.pv 16 237 110591 HT_ ?_
      refine Sq.tv 12 233 114687 HT_ HW_ hHeld ?_
      refine Sq.tv 14 235 131071 HT_ HW_ hHeld ?_
      refine Sq.pv 17 238 262143 HT_ ?_
      refine Sq.pv 18 239 524287 HT_ ?_
      refine Sq.tv 19 240 1048575 HT_ HW_ hHeld ?_
      refine Sq.pv 20 241 2097151 HT_ ?_
      refine Sq.pv 21 242 4194303 HT_ ?_
      refine Sq.pv 22 243 8388607 HT_ ?_
      refine Sq.pv 23 244 16777215 HT_ ?_
      refine Sq.pv 24 245 33554431 HT_ ?_
      refine Sq.pv 25 246 67108863 HT_ ?_
      refine Sq.pv 26 247 134217727 HT_ ?_
      refine Sq.nv 27 248 268435455 HT_ ?_
      refine Sq.nv 28 249 536870911 HT_ ?_
      refine Sq.pv 29 250 1073741823 HT_ ?_
      refine Sq.pv 30 251 2147483647 HT_ ?_
      refine Sq.pv 31 252 4294967295 HT_ ?_
      refine Sq.pv 32 253 8589934591 HT_ ?_
      refine Sq.pv 34 255 25769803775 HT_ ?_
      refine Sq.tv 33 254 34359738367 HT_ HW_ hHeld ?_
      refine one_ (i := 35) (N := some 256) (bm 38 68719476735) rfl rfl (one_of HT_.out (by kernel_rfl)) (by decide) (fun K hK => ?_)
      refine goes_ Try.func25 (by kernel_rfl) rfl #[.int .i64 At, .int .i64 a1] (by rfl) rfl rfl (by (try simp only [List.map_toArray, List.map_cons, List.map_nil]); first | done | rfl) ?_
      refine (rr_fits At a1 (by rw [← HA1.out]; exact H48.out) w10 0).mono ?_
      rintro e w' ⟨rfl, ⟨nd, rfl⟩⟩
      rw [c5q]
      refine ⟨_, rfl, ?_⟩
      refine hK.out _ _ hHeld (fun hHeld => ?_)
      clear hK K
      refine norm_ (a' := ?_) ?_ ?_
      rotate_left
      ·
       show Act.put _ (some 256) _ = _
       simp only [Act.put, List.setIfInBounds_toArray, List.set_cons_zero, List.set_cons_succ, i64_w, i32_w]
       rfl
      refine Sq.pv 36 257 137438953471 HT_ ?_
      refine Sq.pv 37 258 274877906943 HT_ ?_
      refine done_ (done_of HT_.out (by kernel_rfl)) ?_
      go_wp2
      go_ret
      exact ⟨by rw [← HRES.out, rb_leap hlt (HOK.out.trans (by rw [DLE, c5]; simp))]; rfl, (by first | exact HB.out | exact pw_below_drewN HB.out _)⟩
    have hjk : lokB a2 a1_ l0_2 k = true := HOK.out.trans (by rw [DLE, c5]; rfl)
    as_aux_lemma =>
     have e0w := e0
     have e1w := e1
     rw [i64_w] at e0w e1w
     refine start_ (n := 38) (S := fun w' => w'.cell? ⟨g7, 0, none⟩ = some (.int .i64 At) ∧ w'.cell? ⟨g7, 1, none⟩ = some (.int .i64 Co) ∧ w'.cell? ⟨g3, 0, none⟩ = some (.slice A0_0 l0_0.length c0_0) ∧ w'.cell? ⟨g3, 1, none⟩ = some (.slice A0_1 l0_1.length c0_1) ∧ w'.cell? ⟨g3, 2, none⟩ = some (.slice (some ad) l0_2.length c0_2) ∧ w'.cell? (ad.add ((wrap64 ((k : Int) - 1)).toNat * 2)) = some (.int .i64 Wa)) (ds := []) (Sq.bm 38 0) (by kernel_rfl) rfl (by kernel_rfl) ⟨z0, z1, s0, s1, s2, (by rw [← i64_w]; exact hp0)⟩ (fun hHeld => ?_); refine with_tabW longcaseref06_Right.tab33 longcaseref06_Right.bits33 (fun HT_ HW_ => ?_)
     replace B3 := Aside0.mk (blk_drew B3.out)
     replace B7 := Aside0.mk (blk_drew B7.out)
     replace HB := Aside0.mk (below_drew1 HB.out)
     clear z0 z1 s0 s1 s2 hp0 e0 e1
     generalize w9.drew = w10 at B3 B7 HB hHeld ⊢
     refine Sq.pv 0 221 1 HT_ ?_
     refine Sq.pv 1 222 3 HT_ ?_
     refine Sq.pv 2 223 7 HT_ ?_
     refine Sq.nv 3 224 15 HT_ ?_
     refine Sq.nv 4 225 31 HT_ ?_
     refine Sq.nv 5 226 63 HT_ ?_
     refine Sq.pv 6 227 127 HT_ ?_
     refine Sq.pv 7 228 255 HT_ ?_
     refine Sq.pv 8 229 511 HT_ ?_
     refine Sq.pv 9 230 1023 HT_ ?_
     refine Sq.pv 10 231 2047 HT_ ?_
     refine Sq.pv 11 232 4095 HT_ ?_
     refine Sq.pv 13 234 12287 HT_ ?_
     refine Sq.pv 15 236 45055 HT_ ?_
     refine Sq.pv 16 237 110591 HT_ ?_
     refine Sq.tv 12 233 114687 HT_ HW_ hHeld ?_
     refine Sq.tv 14 235 131071 HT_ HW_ hHeld ?_
     refine Sq.pv 17 238 262143 HT_ ?_
     refine Sq.pv 18 239 524287 HT_ ?_
     refine Sq.tv 19 240 1048575 HT_ HW_ hHeld ?_
     refine Sq.pv 20 241 2097151 HT_ ?_
     refine Sq.pv 21 242 4194303 HT_ ?_
     refine Sq.pv 22 243 8388607 HT_ ?_
     refine Sq.pv 23 244 16777215 HT_ ?_
     refine Sq.pv 24 245 33554431 HT_ ?_
     refine Sq.pv 25 246 67108863 HT_ ?_
     refine Sq.pv 26 247 134217727 HT_ ?_
     refine Sq.nv 27 248 268435455 HT_ ?_
     refine Sq.nv 28 249 536870911 HT_ ?_
     refine Sq.pv 29 250 1073741823 HT_ ?_
     refine Sq.pv 30 251 2147483647 HT_ ?_
     refine Sq.pv 31 252 4294967295 HT_ ?_
     refine Sq.pv 32 253 8589934591 HT_ ?_
     refine Sq.pv 34 255 25769803775 HT_ ?_
     refine Sq.tv 33 254 34359738367 HT_ HW_ hHeld ?_
     refine one_ (i := 35) (N := some 256) (bm 38 68719476735) rfl rfl (one_of HT_.out (by kernel_rfl)) (by decide) (fun K hK => ?_)
     refine goes_ Try.func25 (by kernel_rfl) rfl #[.int .i64 At, .int .i64 a1] (by rfl) rfl rfl (by (try simp only [List.map_toArray, List.map_cons, List.map_nil]); first | done | rfl) ?_
     refine (rr_fits At a1 (by rw [← HA1.out]; exact H48.out) w10 0).mono ?_
     rintro e w' ⟨rfl, ⟨nd, rfl⟩⟩
     rw [c5q]
     refine ⟨_, rfl, ?_⟩
     refine hK.out _ _ hHeld (fun hHeld => ?_)
     clear hK K
     refine norm_ (a' := ?_) ?_ ?_
     rotate_left
     ·
      show Act.put _ (some 256) _ = _
      simp only [Act.put, List.setIfInBounds_toArray, List.set_cons_zero, List.set_cons_succ, i64_w, i32_w]
      rfl
     refine Sq.pv 36 257 137438953471 HT_ ?_
     refine Sq.pv 37 258 274877906943 HT_ ?_
     refine done_ (done_of HT_.out (by kernel_rfl)) ?_
     go_wp2
     go_roundw
     case rel => exact ⟨k + 1, by omega, by rw [HWN.out], by go_num, ⟨fun j hj => by rcases Nat.lt_succ_iff_lt_or_eq.1 hj with h | rfl; exact HA.out j h; exact hjk⟩, B3, ⟨(by first | exact HB.out | exact pw_below_drewN HB.out _)⟩⟩
     case measure => simp [intOf]; omega
end Go.Proofs.Ythobnoknbdljgaa.Hand
end
section
namespace Go.Proofs.Ythobnoknbdljgaa.Stub2
open Go.RowKit Go.Proofs.YthobnoknbdljgaaW.PrintWords PB0 Hand
def longcaseref06_Right.f (l0 : List S56) (l1 : List S54) (l2 : List S67) (l3 l4 : List Bool) (a1 a2 : Int) : Option Bool :=
 if encOK l0 l1 l2 l3 l4 ∧ ∀ x ∈ l2, -9223372036854775808 ≤ x.f1 ∧ x.f1 ≤ 9223372036854775807 then some (rightB a1 a2 l0 l1 l2 l3 l4) else none
theorem longcaseref06_Right.calls (A0_0 : Option Addr) (c0_0 : Nat) (l0_0 : List S56) (A0_1 : Option Addr) (c0_1 : Nat) (l0_1 : List S54) (A0_2 : Option Addr) (c0_2 : Nat) (l0_2 : List S67) (A0_3 : Option Addr) (c0_3 : Nat) (l0_3 : List Bool) (A0_4 : Option Addr) (c0_4 : Nat) (l0_4 : List Bool) (a1 a2 : Int) (r : Bool) (w : World) (hr0_0 : Kd.C k56 w A0_0 l0_0.length l0_0) (hc0_0 : l0_0.length ≤ c0_0) (hr0_1 : Kd.C k54 w A0_1 l0_1.length l0_1) (hc0_1 : l0_1.length ≤ c0_1) (hr0_2 : Kd.C k67 w A0_2 l0_2.length l0_2) (hc0_2 : l0_2.length ≤ c0_2) (hr0_3 : Kd.C Kd.bool w A0_3 l0_3.length l0_3) (hc0_3 : l0_3.length ≤ c0_3) (hr0_4 : Kd.C Kd.bool w A0_4 l0_4.length l0_4) (hc0_4 : l0_4.length ≤ c0_4) (h : longcaseref06_Right.f l0_0 l0_1 l0_2 l0_3 l0_4 a1 a2 = some r) :
  Calls Try.prog 13 #[.agg #[.slice A0_0 l0_0.length c0_0, .slice A0_1 l0_1.length c0_1, .slice A0_2 l0_2.length c0_2, .slice A0_3 l0_3.length c0_3, .slice A0_4 l0_4.length c0_4], .int .i64 a1, .int .i64 a2] w fun e w' => e = .returned (.bool r) ∧ Below w.heap.size w w' := by
 unfold longcaseref06_Right.f at h
 split at h
 ·
  rename_i hh
  exact rr_walk A0_0 c0_0 l0_0 A0_1 c0_1 l0_1 A0_2 c0_2 l0_2 A0_3 c0_3 l0_3 A0_4 c0_4 l0_4 a1 a2 r w hr0_0 hc0_0 hr0_1 hc0_1 hr0_2 hc0_2 hr0_3 hc0_3 hr0_4 hc0_4 hh.1 hh.2 (Option.some.inj h)
 ·
  cases h
end Go.Proofs.Ythobnoknbdljgaa.Stub2
end
section
namespace Go.Proofs.Ythobnoknbdljgaa.PR
open Go.Proofs.Ythobnoknbdljgaa.PB0 Sq
open Go.RowKit Go.Proofs.YthobnoknbdljgaaW.PrintWords Go.Proofs.YthobnoknbdljgaaW.PrintLast Go.Proofs.YthobnoknbdljgaaW.PrintMore
attribute [local go_sem] max2_int min2_int max_two min_two
set_option linter.unusedVariables false
set_option linter.unusedSimpArgs false
mutual
def longcaseref06_Encode.l0 : Nat → Int → Int → List Int → List Int → List Int → Int → List (S56) → List (S54) → List (S67) → List Bool → List Bool → Option (List Int × Int × Int × Int × Int × Int × Int × Int)
 | 0, _, _, _, _, _, _, _, _, _, _, _ => none
 | k + 1, x1, x2, x8, x9, x10, x11, x139000, x139001, x139002, x139003, x139004 => if x11 < (x139001.length : Int) then (if 0 ≤ x11 then ((longcaseref04_Put.f k x10 x1 (IntKind.u64.wrap ((rd_T54 x139001 x11).f0))).bind fun t150 => (longcaseref06_Encode.l0 k x1 x2 x8 x9 t150 (wrap64 (x11 + 1)) x139000 x139001 x139002 x139003 x139004)) else (none)) else (longcaseref06_Encode.l1 k x1 x2 x8 x9 x10 0 x139000 x139001 x139002 x139003 x139004)
def longcaseref06_Encode.l1 : Nat → Int → Int → List Int → List Int → List Int → Int → List (S56) → List (S54) → List (S67) → List Bool → List Bool → Option (List Int × Int × Int × Int × Int × Int × Int × Int)
 | 0, _, _, _, _, _, _, _, _, _, _, _ => none
 | k + 1, x1, x2, x8, x9, x10, x12, x139000, x139001, x139002, x139003, x139004 => if x12 < (x139001.length : Int) then (if 0 ≤ x12 then (if x10.length < 140737488355328 then (longcaseref06_Encode.l1 k x1 x2 x8 x9 (x10 ++ [((rd_T54 x139001 x12).f1) % 256]) (wrap64 (x12 + 1)) x139000 x139001 x139002 x139003 x139004) else (none)) else (none)) else (longcaseref06_Encode.l2 k x1 x2 x8 x9 x10 0 x139000 x139001 x139002 x139003 x139004)
def longcaseref06_Encode.l2 : Nat → Int → Int → List Int → List Int → List Int → Int → List (S56) → List (S54) → List (S67) → List Bool → List Bool → Option (List Int × Int × Int × Int × Int × Int × Int × Int)
 | 0, _, _, _, _, _, _, _, _, _, _, _ => none
 | k + 1, x1, x2, x8, x9, x10, x13, x139000, x139001, x139002, x139003, x139004 => if x13 < (x139000.length : Int) then (if 0 ≤ x13 then ((longcaseref04_Put.f k x10 4 (IntKind.u64.wrap ((rd_T56 x139000 x13).f0))).bind fun t158 => ((longcaseref06_truth.f t158 ((rd_T56 x139000 x13).f1)).bind fun t162 => (if x13 < (x9.length : Int) then (if t162.length < 140737488355328 then (longcaseref06_Encode.l2 k x1 x2 x8 x9 (t162 ++ [(rd x9 x13) % 256]) (wrap64 (x13 + 1)) x139000 x139001 x139002 x139003 x139004) else (none)) else (none)))) else (none)) else (if x10.length + x8.length < 140737488355328 then (longcaseref06_Encode.l3 k x1 x2 x8 (x10 ++ x8) 0 x139000 x139001 x139002 x139003 x139004) else (none))
def longcaseref06_Encode.l3 : Nat → Int → Int → List Int → List Int → Int → List (S56) → List (S54) → List (S67) → List Bool → List Bool → Option (List Int × Int × Int × Int × Int × Int × Int × Int)
 | 0, _, _, _, _, _, _, _, _, _, _ => none
 | k + 1, x1, x2, x8, x10, x14, x139000, x139001, x139002, x139003, x139004 => if x14 < (x139002.length : Int) then (if 0 ≤ x14 then ((longcaseref04_Put.f k x10 x1 (IntKind.u64.wrap ((rd_T67 x139002 x14).f0))).bind fun t173 => ((longcaseref04_Put.f k t173 4 (IntKind.u64.wrap ((rd_T67 x139002 x14).f1))).bind fun t177 => (longcaseref06_Encode.l3 k x1 x2 x8 t177 (wrap64 (x14 + 1)) x139000 x139001 x139002 x139003 x139004))) else (none)) else (longcaseref06_Encode.l4 k x2 x8 x10 0 x139000 x139001 x139002 x139003 x139004)
def longcaseref06_Encode.l4 : Nat → Int → List Int → List Int → Int → List (S56) → List (S54) → List (S67) → List Bool → List Bool → Option (List Int × Int × Int × Int × Int × Int × Int × Int)
 | 0, _, _, _, _, _, _, _, _, _ => none
 | k + 1, x2, x8, x10, x15, x139000, x139001, x139002, x139003, x139004 => if x15 < (x139003.length : Int) then (if 0 ≤ x15 then ((longcaseref06_truth.f x10 (rdOf false x139003 x15)).bind fun t181 => (longcaseref06_Encode.l4 k x2 x8 t181 (wrap64 (x15 + 1)) x139000 x139001 x139002 x139003 x139004)) else (none)) else (longcaseref06_Encode.l5 k x2 x8 x10 0 x139000 x139001 x139002 x139003 x139004)
def longcaseref06_Encode.l5 : Nat → Int → List Int → List Int → Int → List (S56) → List (S54) → List (S67) → List Bool → List Bool → Option (List Int × Int × Int × Int × Int × Int × Int × Int)
 | 0, _, _, _, _, _, _, _, _, _ => none
 | k + 1, x2, x8, x10, x16, x139000, x139001, x139002, x139003, x139004 => if x16 < (x139004.length : Int) then (if 0 ≤ x16 then ((longcaseref06_truth.f x10 (rdOf false x139004 x16)).bind fun t185 => (longcaseref06_Encode.l5 k x2 x8 t185 (wrap64 (x16 + 1)) x139000 x139001 x139002 x139003 x139004)) else (none)) else (some (x10, x2, (x139004.length : Int), (x139003.length : Int), (x139002.length : Int), (x139001.length : Int), (x139000.length : Int), (x8.length : Int)))
end
def longcaseref06_Encode.f (k : Nat) (l0_0 : List (S56)) (l0_1 : List (S54)) (l0_2 : List (S67)) (l0_3 : List Bool) (l0_4 : List Bool) (a1 : Int) (a2 : Int) : Option (List Int × Int × Int × Int × Int × Int × Int × Int) := (longcaseref06_Names.f k l0_0).bind fun bt140 => (longcaseref06_Encode.l0 k a1 a2 bt140.1 bt140.2 (([] : List Int)) 0 l0_0 l0_1 l0_2 l0_3 l0_4)
def longcaseref06_Encode.T31 : Bool × List (List Nat × List Nat) := (true, [([], []), ([], []), ([], []), ([2], [2]), ([3], [3]), ([], []), ([5], [5]), ([6], [6]), ([], []), ([8], [8]), ([9], [9]), ([], []), ([11], [11]), ([12], [12]), ([], []), ([14], [14]), ([15], [15]), ([], []), ([17], [17]), ([1, 4, 7, 10, 13, 16, 18], [1, 4, 7, 10, 13, 16, 18]), ([0, 0], [0]), ([19, 20, 0, 1, 2, 3, 4, 5, 6, 7, 8, 9, 10, 11, 12, 13, 14, 15, 16, 17, 18, 19, 20], [19])])
def longcaseref06_Encode.B31 : List Nat := [0, 0, 0, 4, 12, 0, 32, 96, 0, 256, 768, 0, 2048, 6144, 0, 16384, 49152, 0, 131072, 524286, 1, 2097151]
theorem longcaseref06_Encode.tab31 : rtab .any (opsOf Try.f18 31) = longcaseref06_Encode.T31 := by kernel_rfl
theorem longcaseref06_Encode.bits31 : waitsOk longcaseref06_Encode.T31.2 longcaseref06_Encode.B31 = true := by kernel_rfl
set_option maxHeartbeats 8000000 in
set_option maxRecDepth 100000 in
theorem longcaseref06_Encode.calls (k : Nat) (A0_0 : Option Addr) (c0_0 : Nat) (l0_0 : List (S56)) (A0_1 : Option Addr) (c0_1 : Nat) (l0_1 : List (S54)) (A0_2 : Option Addr) (c0_2 : Nat) (l0_2 : List (S67)) (A0_3 : Option Addr) (c0_3 : Nat) (l0_3 : List Bool) (A0_4 : Option Addr) (c0_4 : Nat) (l0_4 : List Bool) (a1 : Int) (a2 : Int) (r1 : List Int) (r2 : Int) (r3 : Int) (r4 : Int) (r5 : Int) (r6 : Int) (r7 : Int) (r8 : Int) (w : World) (hr0_0 : Kd.C k56 w A0_0 l0_0.length l0_0) (hc0_0 : l0_0.length ≤ c0_0) (hr0_1 : Kd.C k54 w A0_1 l0_1.length l0_1) (hc0_1 : l0_1.length ≤ c0_1) (hr0_2 : Kd.C k67 w A0_2 l0_2.length l0_2) (hc0_2 : l0_2.length ≤ c0_2) (hr0_3 : Kd.C Kd.bool w A0_3 l0_3.length l0_3) (hc0_3 : l0_3.length ≤ c0_3) (hr0_4 : Kd.C Kd.bool w A0_4 l0_4.length l0_4) (hc0_4 : l0_4.length ≤ c0_4) (h : longcaseref06_Encode.f k l0_0 l0_1 l0_2 l0_3 l0_4 a1 a2 = some (r1, r2, r3, r4, r5, r6, r7, r8)) :
  Calls Try.prog 18 #[.agg #[.slice A0_0 l0_0.length c0_0, .slice A0_1 l0_1.length c0_1, .slice A0_2 l0_2.length c0_2, .slice A0_3 l0_3.length c0_3, .slice A0_4 l0_4.length c0_4], .int .i64 a1, .int .i64 a2] w fun e w' => ∃ v0_ : Value, e = .returned (.tuple #[v0_, .agg #[.int .i64 r2, .int .i64 r3, .int .i64 r4, .int .i64 r5, .int .i64 r6, .int .i64 r7, .int .i64 r8]]) ∧ Kd.R (Kd.int .u8) 5 w' w.heap.size (fun _ => True) v0_ r1 ∧ Below w.heap.size w w' := by
 have hu31 := Try.underlying31
 have hu41 := Try.underlying41
 have HR0_0 := Aside0.mk hr0_0
 have HC0_0 := Aside0.mk hc0_0
 clear hr0_0 hc0_0
 have HR0_1 := Aside0.mk hr0_1
 have HC0_1 := Aside0.mk hc0_1
 clear hr0_1 hc0_1
 have HR0_2 := Aside0.mk hr0_2
 have HC0_2 := Aside0.mk hc0_2
 clear hr0_2 hc0_2
 have HR0_3 := Aside0.mk hr0_3
 have HC0_3 := Aside0.mk hc0_3
 clear hr0_3 hc0_3
 have HR0_4 := Aside0.mk hr0_4
 have HC0_4 := Aside0.mk hc0_4
 clear hr0_4 hc0_4
 have HB := Aside0.mk (Below.refl w.heap.size w)
 have H : ((longcaseref06_Names.f k l0_0).bind fun bt140 => (longcaseref06_Encode.l0 k a1 a2 bt140.1 bt140.2 (([] : List Int)) 0 l0_0 l0_1 l0_2 l0_3 l0_4)) = some (r1, r2, r3, r4, r5, r6, r7, r8) := h
 clear h
 replace H := Option.bind_eq_some_iff.mp H
 obtain ⟨⟨t140, t141⟩, A40, H⟩ := H
 replace H : (longcaseref06_Encode.l0 k a1 a2 t140 t141 (([] : List Int)) 0 l0_0 l0_1 l0_2 l0_3 l0_4) = some (r1, r2, r3, r4, r5, r6, r7, r8) := H
 have A4 := Aside0.mk A40
 clear A40
 obtain ⟨y146, hy146⟩ : ∃ y_ : List Int, y_ = (([] : List Int)) := ⟨_, rfl⟩
 replace H : (longcaseref06_Encode.l0 k a1 a2 t140 t141 y146 0 l0_0 l0_1 l0_2 l0_3 l0_4) = some (r1, r2, r3, r4, r5, r6, r7, r8) := by first | (rw [hy146]; with_reducible exact H) | (have H2_ := (Option.bind_some _ _).symm.trans H; rw [hy146]; with_reducible exact H2_) | (have H2_ := (Option.bind_some _ _).symm.trans H; with_reducible exact H2_) | with_reducible exact H | (rw [hy146]; exact H) | exact H
 have Ny146 := Aside0.mk hy146
 clear hy146
 have H' := Aside0.mk H
 clear H
 go_enter Try.func18, Try.ntmps18
 go_wp2_with (first | ((with_reducible refine gate_dst (N := 3) rfl ?_); refine box_event ?hg (N := 3) ?hd (cs := #[.slice A0_0 l0_0.length c0_0, .slice A0_1 l0_1.length c0_1, .slice A0_2 l0_2.length c0_2, .slice A0_3 l0_3.length c0_3, .slice A0_4 l0_4.length c0_4]) (t := 31) ?hr ?_; (case hd => rfl); (case hg => rfl); (case hr => first | (go_simp; done) | (go_simp; rfl)); intro gb138 hg w5 hbox hb; have BK138 := Aside0.mk (hbox); have GW138 := Aside0.mk ((by rw [hg]; exact (below_size (Sq.kl HB)) : w.heap.size ≤ gb138)); have GE138 := Aside0.mk ((by rw [hg]; exact (below_size (Sq.kl HB)) : w.heap.size ≤ gb138)); replace HB := Aside0.mk (below_step (Sq.kl HB) hb); clear hb hbox hg) | ((with_reducible refine gate_dst (N := 7) rfl ?_); refine box_event ?hg (N := 7) ?hd (cs := #[.int .i64 0, .int .i64 0, .int .i64 0, .int .i64 0, .int .i64 0, .int .i64 0, .int .i64 0]) (t := 41) ?hr ?_; (case hd => rfl); (case hg => rfl); (case hr => first | (go_simp; done) | (go_simp; rfl)); intro gb139 hg w6 hbox hb; have BK139 := Aside0.mk (hbox); have GW139 := Aside0.mk ((by rw [hg]; exact (below_size (Sq.kl1 HB GE138)) : w.heap.size ≤ gb139)); have GE139 := Aside0.mk ((by rw [hg]; exact (below_size (Sq.kl1 HB GE138)) : w.heap.size ≤ gb139)); replace HB := Aside0.mk (below_step (Sq.kl1 HB GE138) hb); have NB138_139 := Aside0.mk ((by rw [hg]; exact Nat.ne_of_lt (blk_lt (kb BK138)) : gb138 ≠ gb139)); have NB139_138 := Aside0.mk ((by rw [hg]; exact Nat.ne_of_gt (blk_lt (kb BK138)) : gb139 ≠ gb138)); replace BK138 := kbb BK138 hb; clear hb hbox hg; have hnb7 := NB138_139.out; have hnc7 := NB139_138.out; obtain ⟨hcz8_0, hcz8_1, hcz8_2, hcz8_3, hcz8_4⟩ := Sq.c5 BK138; obtain ⟨hfz8_0, hfz8_1, hfz8_2, hfz8_3, hfz8_4⟩ := Sq.z5 BK138) | ((with_reducible refine gate_callee (f := 24) rfl ?_); refine goesL_ (some 20) rfl rfl Try.func24 (by kernel_rfl) rfl #[.slice A0_0 l0_0.length c0_0] rfl (by (try simp only [List.map_toArray, List.map_cons, List.map_nil]); first | done | rfl | (simp only [List.length_drop, List.length_take]; rfl)) ?_; (with_reducible refine (longcaseref06_Names.calls k _ _ l0_0 t140 t141 _ ?side1 ?side2 A4.out).mono ?_); (case side1 => exact Sq.qd HR0_0 HB); (case side2 => exact HC0_0.out); rintro e w9 ⟨v142, v144, rfl, ho0, ho1, hb⟩; refine ⟨_, rfl, ?_⟩; have HO143 := Aside0.mk (Kd.R_lower ho0 (below_size (Sq.kl2 HB GE138 GE139))); have HO145 := Aside0.mk (Kd.R_lower ho1 (below_size (Sq.kl2 HB GE138 GE139))); replace BK138 := kbb BK138 hb; replace BK139 := kbb BK139 hb; replace HB := Aside0.mk (below_step (Sq.kl2 HB GE138 GE139) hb); (try clear hb); (try clear ho0); (try clear ho1)) | ((with_reducible refine gate_dst (N := 23) rfl ?_); refine Kd.R_lit (Kd.int .u8) _ 5 ?hg (N := 23) ?hd (xs := ([] : List Int)) (inner := []) (ok := fun _ => True) (okp := fun _ => True) ?hr ?hp (fun _ hk => hk) trivial (Below.refl _ _) (Nat.le_refl _) (by simp) ?_; (case hd => rfl); (case hg => rfl); (case hr => first | (go_simp; done) | (go_simp; rfl)); (case hp => exact (Reps.none _ _)); intro v147 w10 ho11 hb hg_ hnew_; clear hg_ hnew_; (first | rw [← Ny146.out] at ho11 | (simp only [Int.reduceToNat] at ho11; rw [← Ny146.out] at ho11)); replace HO145 := krb HO145 hb; have HO148 := Aside0.mk (Kd.R_lower (Kd.R_new' ho11 (Kd.R_lt (kr HO143))) (below_size (Sq.kl2 HB GE138 GE139))); replace HO143 := Aside0.mk (Kd.R_elder' (kr HO143) (Kd.R_base ho11) hb); replace BK138 := kbb BK138 hb; replace BK139 := kbb BK139 hb; replace HB := Aside0.mk (below_step (Sq.kl2 HB GE138 GE139) hb); clear hb ho11))
 go_loopg [10, 11] k (fun kq v10 v11 w' => ∃ (x10_1 : List Int) (x11_1 : Int), v11 = .int .i64 x11_1 ∧ Aside0 (longcaseref06_Encode.l0 kq a1 a2 t140 t141 x10_1 x11_1 l0_0 l0_1 l0_2 l0_3 l0_4 = some (r1, r2, r3, r4, r5, r6, r7, r8)) ∧ Aside0 (kq ≤ k) ∧ Aside0 (Kd.R (Kd.int .u8) 5 w' w.heap.size (fun k_ => some k_ ≠ (v10 : Value).ownBlock) v142 t140) ∧ Aside0 (Kd.R (Kd.int .i64) 3 w' w.heap.size (fun _ => True) v144 t141) ∧ Aside0 (Kd.R (Kd.int .u8) 5 w' w.heap.size (fun k_ => some k_ ≠ (v142 : Value).ownBlock) v10 x10_1) ∧ Aside0 (w'.heap[gb138]? = some (.cells #[(.slice A0_0 l0_0.length c0_0), (.slice A0_1 l0_1.length c0_1), (.slice A0_2 l0_2.length c0_2), (.slice A0_3 l0_3.length c0_3), (.slice A0_4 l0_4.length c0_4)] 31 (0, 0))) ∧ Aside0 (w'.heap[gb139]? = some (.cells #[.int .i64 0, .int .i64 0, .int .i64 0, .int .i64 0, .int .i64 0, .int .i64 0, .int .i64 0] 41 (0, 0))) ∧ Aside0 (Below w.heap.size w w'))
 case atStart => exact ⟨(y146), (0), (by first | rfl | (simp; done) | (simp [*]; done)), H', ⟨Nat.le_refl _⟩, ⟨by (with_reducible repeat (first | apply Kd.R_alloc | apply Kd.R_drewN | apply Kd.R_drew)); exact Kd.R_mono HO143.out (fun _ hk => hk.2)⟩, ⟨by (with_reducible repeat (first | apply Kd.R_alloc | apply Kd.R_drewN | apply Kd.R_drew)); exact HO145.out⟩, ⟨by (with_reducible repeat (first | apply Kd.R_alloc | apply Kd.R_drewN | apply Kd.R_drew)); exact Kd.R_mono HO148.out (fun _ hk => hk.2)⟩, ⟨Sq.kb BK138⟩, ⟨Sq.kb BK139⟩, ⟨Sq.kl2 HB GE138 GE139⟩⟩
 clear H'
 try clear c1
 try clear c2
 try clear p2
 try clear c7
 try clear hcz8_0
 try clear hcz8_1
 try clear hcz8_2
 try clear hcz8_3
 try clear hcz8_4
 try clear hfz8_0
 try clear hfz8_1
 try clear hfz8_2
 try clear hfz8_3
 try clear hfz8_4
 obtain ⟨x10_1, x11_1, rfl, HA, HK1, HO_8, HO_9, HO_10, BK138, BK139, HB⟩ := hrel
 cases gk with
 | zero => exact absurd HA.out (by simp [longcaseref06_Encode.l0])
 | succ k1 =>
  have H := HA.out
  clear HA
  simp only [longcaseref06_Encode.l0] at H
  by_cases c12 : x11_1 < (l0_1.length : Int)
  ·
   rw [if_pos c12] at H
   have c12b0 : decide (x11_1 < (l0_1.length : Int)) = true := decide_eq_true c12
   clear c12
   by_cases c13 : 0 ≤ x11_1
   rotate_left
   ·
    rw [if_neg c13] at H
    exact absurd H (by simp)
   rw [if_pos c13] at H
   have c13b0 : decide (0 ≤ x11_1) = true := decide_eq_true c13
   clear c13
   replace H := Option.bind_eq_some_iff.mp H
   obtain ⟨t150, A140, H⟩ := H
   replace H : (longcaseref06_Encode.l0 k1 a1 a2 t140 t141 t150 (wrap64 (x11_1 + 1)) l0_0 l0_1 l0_2 l0_3 l0_4) = some (r1, r2, r3, r4, r5, r6, r7, r8) := H
   have A14 := Aside0.mk A140
   clear A140
   have H' := Aside0.mk H
   clear H
   have hnb15 := NB138_139.out
   have hnc15 := NB139_138.out
   obtain ⟨hcz16_0, hcz16_1, hcz16_2, hcz16_3, hcz16_4⟩ := Sq.c5 BK138
   obtain ⟨hfz16_0, hfz16_1, hfz16_2, hfz16_3, hfz16_4⟩ := Sq.z5 BK138
   have p149 : 0 ≤ (x11_1 : Int) := of_decide_eq_true (by first | (with_reducible assumption) | assumption)
   have q149 : x11_1 < (l0_1.length : Int) := of_decide_eq_true (by first | (with_reducible assumption) | assumption)
   obtain ⟨ad149, e149, hx149_0, hx149_1⟩ := at_T54 HR0_1.out x11_1 p149 q149
   cases e149
   replace hx149_0 := (HB.out.cell (World.block_lt_of_cell? w _ hx149_0)).trans hx149_0
   replace hx149_1 := (HB.out.cell (World.block_lt_of_cell? w _ hx149_1)).trans hx149_1
   replace p149 := eq_true p149
   replace q149 := eq_true q149
   obtain ⟨Ao17, co17, eo17⟩ := Kd.R_slice HO_10.out
   subst eo17
   go_wp2_with (first | ((with_reducible refine gate_callee (f := 34) rfl ?_); refine goesL_ (some 40) rfl rfl Try.func34 (by kernel_rfl) rfl #[.slice Ao17 x10_1.length co17, .int .i64 a1, .int .u64 (IntKind.u64.wrap ((rd_T54 l0_1 x11_1).f0))] rfl (by (try simp only [List.map_toArray, List.map_cons, List.map_nil]); first | done | rfl | (simp only [List.length_drop, List.length_take]; rfl)) ?_; (with_reducible refine (longcaseref04_Put.calls k1 _ _ x10_1 a1 (IntKind.u64.wrap ((rd_T54 l0_1 x11_1).f0)) t150 _ ?side1 ?side2 A14.out).mono ?_); (case side1 => exact Sq.qc HO_10); (case side2 => exact Sq.ql HO_10); rintro e w18 ⟨v151, rfl, ho0, hb⟩; refine ⟨_, rfl, ?_⟩; replace HO_9 := krb HO_9 hb; have HO152 := Aside0.mk (Kd.R_lower (Kd.R_new' (Kd.R_new' ho0 (Kd.R_lt (kr HO_8))) (Kd.R_lt (kr HO_10))) (below_size (Sq.kl2 HB GE138 GE139))); replace HO_8 := Aside0.mk (Kd.R_elder' (kr HO_8) (Kd.R_base ho0) hb); replace HO_10 := Aside0.mk (Kd.R_elder' (kr HO_10) (Kd.R_base ho0) hb); replace BK138 := kbb BK138 hb; replace BK139 := kbb BK139 hb; replace HB := Aside0.mk (below_step (Sq.kl2 HB GE138 GE139) hb); (try clear hb); (try clear ho0)))
   go_roundg k1
   case measure => have := HK1.out; omega
   case rel => exact ⟨(t150), (wrap64 (x11_1 + 1)), (by first | rfl | (simp; done) | (simp [*]; done)), H', ⟨by have := HK1.out; omega⟩, ⟨by (with_reducible repeat (first | apply Kd.R_alloc | apply Kd.R_drewN | apply Kd.R_drew)); exact Kd.R_mono HO_8.out (fun _ hk => hk.2)⟩, ⟨by (with_reducible repeat (first | apply Kd.R_alloc | apply Kd.R_drewN | apply Kd.R_drew)); exact HO_9.out⟩, ⟨by (with_reducible repeat (first | apply Kd.R_alloc | apply Kd.R_drewN | apply Kd.R_drew)); exact Kd.R_mono HO152.out (fun _ hk => hk.1.2)⟩, ⟨Sq.kb BK138⟩, ⟨Sq.kb BK139⟩, ⟨Sq.kl2 HB GE138 GE139⟩⟩
  rw [if_neg c12] at H
  have c12b0 : decide (x11_1 < (l0_1.length : Int)) = false := decide_eq_false c12
  clear c12
  have H' := Aside0.mk H
  clear H
  have hnb19 := NB138_139.out
  have hnc19 := NB139_138.out
  obtain ⟨hcz20_0, hcz20_1, hcz20_2, hcz20_3, hcz20_4⟩ := Sq.c5 BK138
  obtain ⟨hfz20_0, hfz20_1, hfz20_2, hfz20_3, hfz20_4⟩ := Sq.z5 BK138
  go_wp2
  go_loopg [10, 12] k1 (fun kq v10 v12 w' => ∃ (x10_2 : List Int) (x12_2 : Int), v12 = .int .i64 x12_2 ∧ Aside0 (longcaseref06_Encode.l1 kq a1 a2 t140 t141 x10_2 x12_2 l0_0 l0_1 l0_2 l0_3 l0_4 = some (r1, r2, r3, r4, r5, r6, r7, r8)) ∧ Aside0 (kq ≤ k1) ∧ Aside0 (Kd.R (Kd.int .u8) 5 w' w.heap.size (fun k_ => some k_ ≠ (v10 : Value).ownBlock) v142 t140) ∧ Aside0 (Kd.R (Kd.int .i64) 3 w' w.heap.size (fun _ => True) v144 t141) ∧ Aside0 (Kd.R (Kd.int .u8) 5 w' w.heap.size (fun k_ => some k_ ≠ (v142 : Value).ownBlock) v10 x10_2) ∧ Aside0 (w'.heap[gb138]? = some (.cells #[(.slice A0_0 l0_0.length c0_0), (.slice A0_1 l0_1.length c0_1), (.slice A0_2 l0_2.length c0_2), (.slice A0_3 l0_3.length c0_3), (.slice A0_4 l0_4.length c0_4)] 31 (0, 0))) ∧ Aside0 (w'.heap[gb139]? = some (.cells #[.int .i64 0, .int .i64 0, .int .i64 0, .int .i64 0, .int .i64 0, .int .i64 0, .int .i64 0] 41 (0, 0))) ∧ Aside0 (Below w.heap.size w w'))
  case atStart => exact ⟨(x10_1), (0), (by first | rfl | (simp; done) | (simp [*]; done)), H', ⟨Nat.le_refl _⟩, ⟨by (with_reducible repeat (first | apply Kd.R_alloc | apply Kd.R_drewN | apply Kd.R_drew)); exact HO_8.out⟩, ⟨by (with_reducible repeat (first | apply Kd.R_alloc | apply Kd.R_drewN | apply Kd.R_drew)); exact HO_9.out⟩, ⟨by (with_reducible repeat (first | apply Kd.R_alloc | apply Kd.R_drewN | apply Kd.R_drew)); exact HO_10.out⟩, ⟨Sq.kb BK138⟩, ⟨Sq.kb BK139⟩, ⟨Sq.kl2 HB GE138 GE139⟩⟩
  clear H'
  try clear c1
  try clear p1
  try clear q1
  try clear hx1
  try clear c2
  try clear p2
  try clear c3
  try clear p6
  try clear c7
  try clear c12
  try clear c12b0
  try clear c13
  try clear c13b0
  try clear p14
  try clear q14
  try clear hx14
  try clear c15
  try clear c18
  try clear c19
  try clear hcz16_0
  try clear hcz16_1
  try clear hcz16_2
  try clear hcz16_3
  try clear hcz16_4
  try clear hcz20_0
  try clear hcz20_1
  try clear hcz20_2
  try clear hcz20_3
  try clear hcz20_4
  try clear hcz8_0
  try clear hcz8_1
  try clear hcz8_2
  try clear hcz8_3
  try clear hcz8_4
  try clear hfz16_0
  try clear hfz16_1
  try clear hfz16_2
  try clear hfz16_3
  try clear hfz16_4
  try clear hfz20_0
  try clear hfz20_1
  try clear hfz20_2
  try clear hfz20_3
  try clear hfz20_4
  try clear hfz8_0
  try clear hfz8_1
  try clear hfz8_2
  try clear hfz8_3
  try clear hfz8_4
  try clear hx149_0
  try clear hx149_1
  try clear p149
  try clear p2
  try clear q149
  obtain ⟨x10_2, x12_2, rfl, HA, HK2, HO_8, HO_9, HO_10, BK138, BK139, HB⟩ := hrel
  cases gk with
  | zero => exact absurd HA.out (by simp [longcaseref06_Encode.l1])
  | succ k2 =>
   have H := HA.out
   clear HA
   simp only [longcaseref06_Encode.l1] at H
   by_cases c21 : x12_2 < (l0_1.length : Int)
   ·
    rw [if_pos c21] at H
    have c21b0 : decide (x12_2 < (l0_1.length : Int)) = true := decide_eq_true c21
    clear c21
    by_cases c22 : 0 ≤ x12_2
    rotate_left
    ·
     rw [if_neg c22] at H
     exact absurd H (by simp)
    rw [if_pos c22] at H
    have c22b0 : decide (0 ≤ x12_2) = true := decide_eq_true c22
    clear c22
    by_cases c23 : x10_2.length < 140737488355328
    rotate_left
    ·
     rw [if_neg c23] at H
     exact absurd H (by simp)
    rw [if_pos c23] at H
    have LMc23 := Aside0.mk c23
    clear c23
    obtain ⟨y154, hy154⟩ : ∃ y_ : List Int, y_ = (x10_2 ++ [((rd_T54 l0_1 x12_2).f1) % 256]) := ⟨_, rfl⟩
    replace H : (longcaseref06_Encode.l1 k2 a1 a2 t140 t141 y154 (wrap64 (x12_2 + 1)) l0_0 l0_1 l0_2 l0_3 l0_4) = some (r1, r2, r3, r4, r5, r6, r7, r8) := by first | (rw [hy154]; with_reducible exact H) | (have H2_ := (Option.bind_some _ _).symm.trans H; rw [hy154]; with_reducible exact H2_) | (have H2_ := (Option.bind_some _ _).symm.trans H; with_reducible exact H2_) | with_reducible exact H | (rw [hy154]; exact H) | exact H
    have Ny154 := Aside0.mk hy154
    clear hy154
    have H' := Aside0.mk H
    clear H
    have hnb24 := NB138_139.out
    have hnc24 := NB139_138.out
    obtain ⟨hcz25_0, hcz25_1, hcz25_2, hcz25_3, hcz25_4⟩ := Sq.c5 BK138
    obtain ⟨hfz25_0, hfz25_1, hfz25_2, hfz25_3, hfz25_4⟩ := Sq.z5 BK138
    have p153 : 0 ≤ (x12_2 : Int) := of_decide_eq_true (by first | (with_reducible assumption) | assumption)
    have q153 : x12_2 < (l0_1.length : Int) := of_decide_eq_true (by first | (with_reducible assumption) | assumption)
    obtain ⟨ad153, e153, hx153_0, hx153_1⟩ := at_T54 HR0_1.out x12_2 p153 q153
    cases e153
    replace hx153_0 := (HB.out.cell (World.block_lt_of_cell? w _ hx153_0)).trans hx153_0
    replace hx153_1 := (HB.out.cell (World.block_lt_of_cell? w _ hx153_1)).trans hx153_1
    replace p153 := eq_true p153
    replace q153 := eq_true q153
    go_wp2_with (first | ((with_reducible refine gate_builtin (b := .append) (xs := #[.tmp 48, .tmp 56]) rfl ?_); at_builtin; refine Kd.R_append (Kd.int .u8) (w0 := w) w.heap.size rfl (.tmp 48) (.tmp 56) 33 5 (.int .u8 0) 1 rfl Try.underlying33 info5 rfl (by decide) (by omega) u10 x10_2 (((rd_T54 l0_1 x12_2).f1) % 256) [.int .u8 (((rd_T54 l0_1 x12_2).f1) % 256)] (fun k_ => some k_ ≠ (v142 : Value).ownBlock) (fun _ => False) rfl rfl ?aP (fun _ hk => hk.elim) ?aF ?aO ?aB ?aS ?aL ?_; (case aP => exact rfl); (case aB => exact (Sq.kl2 HB GE138 GE139)); (case aF => exact (fun k_ hk => Kd.fresh' (Kd.R_lt (kr HO_8)) k_ hk)); (case aO => exact (kr HO_10)); (case aS => exact (below_size (Sq.kl2 HB GE138 GE139))); (case aL => have := LMc23.out; omega); intro v155 w26 ho hb hg hat; rw [← Ny154.out] at ho; replace HO_8 := Aside0.mk (Kd.R_after (ok := (fun _ => True)) (by (with_reducible repeat (first | apply Kd.R_alloc | apply Kd.R_drewN | apply Kd.R_drew)); exact Kd.R_mono HO_8.out (fun _ hk => ⟨trivial, hk⟩)) hg hat); replace HO_9 := Aside0.mk (Kd.R_over' (kr HO_9) (Kd.R_typed (kr HO_10)) (by decide) hg); replace BK138 := Aside0.mk (blk_grown (g := gb138) (o := .cells #[.slice A0_0 l0_0.length c0_0, .slice (some ad153) l0_1.length c0_1, .slice A0_2 l0_2.length c0_2, .slice A0_3 l0_3.length c0_3, .slice A0_4 l0_4.length c0_4] 31 (0, 0)) (kb BK138) hg (Kd.R_ne HO_10.out BK138.out (by decide))); replace BK139 := Aside0.mk (blk_grown (g := gb139) (o := .cells #[.int .i64 0, .int .i64 0, .int .i64 0, .int .i64 0, .int .i64 0, .int .i64 0, .int .i64 0] 41 (0, 0)) (kb BK139) hg (Kd.R_ne HO_10.out BK139.out (by decide))); replace HB := Aside0.mk (hb); have HO156 := Aside0.mk (ho); clear HO_10; clear ho hb hg hat))
    go_roundg k2
    case measure => have := HK1.out; have := HK2.out; omega
    case rel => exact ⟨(y154), (wrap64 (x12_2 + 1)), (by first | rfl | (simp; done) | (simp [*]; done)), H', ⟨by have := HK1.out; have := HK2.out; omega⟩, ⟨by (with_reducible repeat (first | apply Kd.R_alloc | apply Kd.R_drewN | apply Kd.R_drew)); exact Kd.R_mono HO_8.out (fun _ hk => hk.2)⟩, ⟨by (with_reducible repeat (first | apply Kd.R_alloc | apply Kd.R_drewN | apply Kd.R_drew)); exact HO_9.out⟩, ⟨by (with_reducible repeat (first | apply Kd.R_alloc | apply Kd.R_drewN | apply Kd.R_drew)); exact HO156.out⟩, ⟨Sq.kb BK138⟩, ⟨Sq.kb BK139⟩, ⟨Sq.kl2 HB GE138 GE139⟩⟩
   rw [if_neg c21] at H
   have c21b0 : decide (x12_2 < (l0_1.length : Int)) = false := decide_eq_false c21
   clear c21
   have H' := Aside0.mk H
   clear H
   have hnb27 := NB138_139.out
   have hnc27 := NB139_138.out
   obtain ⟨hcz28_0, hcz28_1, hcz28_2, hcz28_3, hcz28_4⟩ := Sq.c5 BK138
   obtain ⟨hfz28_0, hfz28_1, hfz28_2, hfz28_3, hfz28_4⟩ := Sq.z5 BK138
   go_wp2
   go_loopg [10, 13] k2 (fun kq v10 v13 w' => ∃ (x10_3 : List Int) (x13_3 : Int), v13 = .int .i64 x13_3 ∧ Aside0 (longcaseref06_Encode.l2 kq a1 a2 t140 t141 x10_3 x13_3 l0_0 l0_1 l0_2 l0_3 l0_4 = some (r1, r2, r3, r4, r5, r6, r7, r8)) ∧ Aside0 (kq ≤ k2) ∧ Aside0 (Kd.R (Kd.int .u8) 5 w' w.heap.size (fun k_ => some k_ ≠ (v10 : Value).ownBlock) v142 t140) ∧ Aside0 (Kd.R (Kd.int .i64) 3 w' w.heap.size (fun _ => True) v144 t141) ∧ Aside0 (Kd.R (Kd.int .u8) 5 w' w.heap.size (fun k_ => some k_ ≠ (v142 : Value).ownBlock) v10 x10_3) ∧ Aside0 (w'.heap[gb138]? = some (.cells #[(.slice A0_0 l0_0.length c0_0), (.slice A0_1 l0_1.length c0_1), (.slice A0_2 l0_2.length c0_2), (.slice A0_3 l0_3.length c0_3), (.slice A0_4 l0_4.length c0_4)] 31 (0, 0))) ∧ Aside0 (w'.heap[gb139]? = some (.cells #[.int .i64 0, .int .i64 0, .int .i64 0, .int .i64 0, .int .i64 0, .int .i64 0, .int .i64 0] 41 (0, 0))) ∧ Aside0 (Below w.heap.size w w'))
   case atStart => exact ⟨(x10_2), (0), (by first | rfl | (simp; done) | (simp [*]; done)), H', ⟨Nat.le_refl _⟩, ⟨by (with_reducible repeat (first | apply Kd.R_alloc | apply Kd.R_drewN | apply Kd.R_drew)); exact HO_8.out⟩, ⟨by (with_reducible repeat (first | apply Kd.R_alloc | apply Kd.R_drewN | apply Kd.R_drew)); exact HO_9.out⟩, ⟨by (with_reducible repeat (first | apply Kd.R_alloc | apply Kd.R_drewN | apply Kd.R_drew)); exact HO_10.out⟩, ⟨Sq.kb BK138⟩, ⟨Sq.kb BK139⟩, ⟨Sq.kl2 HB GE138 GE139⟩⟩
   clear H'
   try clear c1
   try clear p1
   try clear q1
   try clear hx1
   try clear c2
   try clear p2
   try clear c3
   try clear p6
   try clear c7
   try clear c12
   try clear c12b0
   try clear c13
   try clear c13b0
   try clear p14
   try clear q14
   try clear hx14
   try clear c15
   try clear p15
   try clear q15
   try clear hx15
   try clear c18
   try clear c19
   try clear c21
   try clear c21b0
   try clear c22
   try clear c22b0
   try clear c23
   try clear c24
   try clear c27
   try clear hcz16_0
   try clear hcz16_1
   try clear hcz16_2
   try clear hcz16_3
   try clear hcz16_4
   try clear hcz20_0
   try clear hcz20_1
   try clear hcz20_2
   try clear hcz20_3
   try clear hcz20_4
   try clear hcz25_0
   try clear hcz25_1
   try clear hcz25_2
   try clear hcz25_3
   try clear hcz25_4
   try clear hcz28_0
   try clear hcz28_1
   try clear hcz28_2
   try clear hcz28_3
   try clear hcz28_4
   try clear hcz8_0
   try clear hcz8_1
   try clear hcz8_2
   try clear hcz8_3
   try clear hcz8_4
   try clear hfz16_0
   try clear hfz16_1
   try clear hfz16_2
   try clear hfz16_3
   try clear hfz16_4
   try clear hfz20_0
   try clear hfz20_1
   try clear hfz20_2
   try clear hfz20_3
   try clear hfz20_4
   try clear hfz25_0
   try clear hfz25_1
   try clear hfz25_2
   try clear hfz25_3
   try clear hfz25_4
   try clear hfz28_0
   try clear hfz28_1
   try clear hfz28_2
   try clear hfz28_3
   try clear hfz28_4
   try clear hfz8_0
   try clear hfz8_1
   try clear hfz8_2
   try clear hfz8_3
   try clear hfz8_4
   try clear hx149_0
   try clear hx149_1
   try clear hx153_0
   try clear hx153_1
   try clear p1
   try clear p14
   try clear p149
   try clear p153
   try clear p2
   try clear p6
   try clear q1
   try clear q14
   try clear q149
   try clear q153
   obtain ⟨x10_3, x13_3, rfl, HA, HK3, HO_8, HO_9, HO_10, BK138, BK139, HB⟩ := hrel
   cases gk with
   | zero => exact absurd HA.out (by simp [longcaseref06_Encode.l2])
   | succ k3 =>
    have H := HA.out
    clear HA
    simp only [longcaseref06_Encode.l2] at H
    by_cases c29 : x13_3 < (l0_0.length : Int)
    ·
     rw [if_pos c29] at H
     have c29b0 : decide (x13_3 < (l0_0.length : Int)) = true := decide_eq_true c29
     clear c29
     by_cases c30 : 0 ≤ x13_3
     rotate_left
     ·
      rw [if_neg c30] at H
      exact absurd H (by simp)
     rw [if_pos c30] at H
     have c30b0 : decide (0 ≤ x13_3) = true := decide_eq_true c30
     clear c30
     replace H := Option.bind_eq_some_iff.mp H
     obtain ⟨t158, A310, H⟩ := H
     replace H : ((longcaseref06_truth.f t158 ((rd_T56 l0_0 x13_3).f1)).bind fun t162 => (if x13_3 < (t141.length : Int) then (if t162.length < 140737488355328 then (longcaseref06_Encode.l2 k3 a1 a2 t140 t141 (t162 ++ [(rd t141 x13_3) % 256]) (wrap64 (x13_3 + 1)) l0_0 l0_1 l0_2 l0_3 l0_4) else (none)) else (none))) = some (r1, r2, r3, r4, r5, r6, r7, r8) := H
     have A31 := Aside0.mk A310
     clear A310
     replace H := Option.bind_eq_some_iff.mp H
     obtain ⟨t162, A320, H⟩ := H
     replace H : (if x13_3 < (t141.length : Int) then (if t162.length < 140737488355328 then (longcaseref06_Encode.l2 k3 a1 a2 t140 t141 (t162 ++ [(rd t141 x13_3) % 256]) (wrap64 (x13_3 + 1)) l0_0 l0_1 l0_2 l0_3 l0_4) else (none)) else (none)) = some (r1, r2, r3, r4, r5, r6, r7, r8) := H
     have A32 := Aside0.mk A320
     clear A320
     by_cases c33 : x13_3 < (t141.length : Int)
     rotate_left
     ·
      rw [if_neg c33] at H
      exact absurd H (by simp)
     rw [if_pos c33] at H
     have c33b0 : decide (x13_3 < (t141.length : Int)) = true := decide_eq_true c33
     clear c33
     by_cases c34 : t162.length < 140737488355328
     rotate_left
     ·
      rw [if_neg c34] at H
      exact absurd H (by simp)
     rw [if_pos c34] at H
     have LMc34 := Aside0.mk c34
     clear c34
     obtain ⟨y166, hy166⟩ : ∃ y_ : List Int, y_ = (t162 ++ [(rd t141 x13_3) % 256]) := ⟨_, rfl⟩
     replace H : (longcaseref06_Encode.l2 k3 a1 a2 t140 t141 y166 (wrap64 (x13_3 + 1)) l0_0 l0_1 l0_2 l0_3 l0_4) = some (r1, r2, r3, r4, r5, r6, r7, r8) := by first | (rw [hy166]; with_reducible exact H) | (have H2_ := (Option.bind_some _ _).symm.trans H; rw [hy166]; with_reducible exact H2_) | (have H2_ := (Option.bind_some _ _).symm.trans H; with_reducible exact H2_) | with_reducible exact H | (rw [hy166]; exact H) | exact H
     have Ny166 := Aside0.mk hy166
     clear hy166
     have H' := Aside0.mk H
     clear H
     have hnb35 := NB138_139.out
     have hnc35 := NB139_138.out
     obtain ⟨hcz36_0, hcz36_1, hcz36_2, hcz36_3, hcz36_4⟩ := Sq.c5 BK138
     obtain ⟨hfz36_0, hfz36_1, hfz36_2, hfz36_3, hfz36_4⟩ := Sq.z5 BK138
     have p157 : 0 ≤ (x13_3 : Int) := of_decide_eq_true (by first | (with_reducible assumption) | assumption)
     have q157 : x13_3 < (l0_0.length : Int) := of_decide_eq_true (by first | (with_reducible assumption) | assumption)
     obtain ⟨ad157, e157, hx157_0, hx157_1, hx157_2⟩ := at_T56 HR0_0.out x13_3 p157 q157
     cases e157
     replace hx157_0 := (HB.out.cell (World.block_lt_of_cell? w _ hx157_0)).trans hx157_0
     replace hx157_1 := (HB.out.cell (World.block_lt_of_cell? w _ hx157_1)).trans hx157_1
     replace hx157_2 := (HB.out.cell (World.block_lt_of_cell? w _ hx157_2)).trans hx157_2
     replace p157 := eq_true p157
     replace q157 := eq_true q157
     obtain ⟨Ao37, co37, eo37⟩ := Kd.R_slice HO_10.out
     subst eo37
     go_wp2_with (first | ((with_reducible refine gate_callee (f := 34) rfl ?_); refine goesL_ (some 73) rfl rfl Try.func34 (by kernel_rfl) rfl #[.slice Ao37 x10_3.length co37, .int .i64 4, .int .u64 (IntKind.u64.wrap ((rd_T56 l0_0 x13_3).f0))] rfl (by (try simp only [List.map_toArray, List.map_cons, List.map_nil]); first | done | rfl | (simp only [List.length_drop, List.length_take]; rfl)) ?_; (with_reducible refine (longcaseref04_Put.calls k3 _ _ x10_3 4 (IntKind.u64.wrap ((rd_T56 l0_0 x13_3).f0)) t158 _ ?side1 ?side2 A31.out).mono ?_); (case side1 => exact Sq.qc HO_10); (case side2 => exact Sq.ql HO_10); rintro e w38 ⟨v159, rfl, ho0, hb⟩; refine ⟨_, rfl, ?_⟩; replace HO_9 := krb HO_9 hb; have HO160 := Aside0.mk (Kd.R_lower (Kd.R_new' (Kd.R_new' ho0 (Kd.R_lt (kr HO_8))) (Kd.R_lt (kr HO_10))) (below_size (Sq.kl2 HB GE138 GE139))); replace HO_8 := Aside0.mk (Kd.R_elder' (kr HO_8) (Kd.R_base ho0) hb); replace HO_10 := Aside0.mk (Kd.R_elder' (kr HO_10) (Kd.R_base ho0) hb); replace BK138 := kbb BK138 hb; replace BK139 := kbb BK139 hb; replace HB := Aside0.mk (below_step (Sq.kl2 HB GE138 GE139) hb); (try clear hb); (try clear ho0); obtain ⟨hcz39_0, hcz39_1, hcz39_2, hcz39_3, hcz39_4⟩ := Sq.c5 BK138; obtain ⟨hfz39_0, hfz39_1, hfz39_2, hfz39_3, hfz39_4⟩ := Sq.z5 BK138; have p161 : 0 ≤ (x13_3 : Int) := of_decide_eq_true (by first | (with_reducible assumption) | assumption); have q161 : x13_3 < (l0_0.length : Int) := of_decide_eq_true (by first | (with_reducible assumption) | assumption); obtain ⟨ad161, e161, hx161_0, hx161_1, hx161_2⟩ := at_T56 HR0_0.out x13_3 p161 q161; obtain rfl : ad157 = ad161 := (by injection e161); replace hx161_0 := (HB.out.cell (World.block_lt_of_cell? w _ hx161_0)).trans hx161_0; replace hx161_1 := (HB.out.cell (World.block_lt_of_cell? w _ hx161_1)).trans hx161_1; replace hx161_2 := (HB.out.cell (World.block_lt_of_cell? w _ hx161_2)).trans hx161_2; replace p161 := eq_true p161; replace q161 := eq_true q161; obtain ⟨Ao40, co40, eo40⟩ := Kd.R_slice HO160.out; subst eo40) | ((with_reducible refine gate_callee (f := 35) rfl ?_); refine goesL_ (some 81) rfl rfl Try.func35 (by kernel_rfl) rfl #[.slice Ao40 t158.length co40, .bool ((rd_T56 l0_0 x13_3).f1)] rfl (by (try simp only [List.map_toArray, List.map_cons, List.map_nil]); first | done | rfl | (simp only [List.length_drop, List.length_take]; rfl)) ?_; (with_reducible refine (longcaseref06_truth.calls (fun k_ => some k_ = (.slice Ao40 t158.length co40 : Value).ownBlock) (.slice Ao40 t158.length co40) t158 ((rd_T56 l0_0 x13_3).f1) t162 w _ ?side1 ?side2 A32.out).mono ?_); (case side1 => repeat (first | (with_reducible first | exact HB.out | apply below_alloc | apply pw_below_drewN | apply below_drew1 | refine below_set ?_ GE138.out | refine below_set ?_ GE139.out) | exact HB.out)); (case side2 => exact Kd.R_tight rfl HO160.out); rintro e w41 ⟨v163, rfl, ho0, hb, hkp⟩; refine ⟨_, rfl, ?_⟩; replace HO_9 := Aside0.mk (Kd.R_mono (ok' := fun k_ => True) (Kd.R_keptB ((Kd.R_apart' HO_9.out (Kd.R_typed HO160.out) (by decide))) hkp (fun k_ hk_ hs_ => (hk_.2) hs_)) (fun k_ hk_ => trivial)); replace BK138 := Aside0.mk (blk_kept (kb BK138) hkp (fun hs_ => (fun e_ => (Kd.R_ne HO160.out BK138.out (by decide)) e_) hs_)); replace BK139 := Aside0.mk (blk_kept (kb BK139) hkp (fun hs_ => (fun e_ => (Kd.R_ne HO160.out BK139.out (by decide)) e_) hs_)); have HO164 := Aside0.mk (Kd.R_mono (ok' := fun k_ => some k_ ≠ (v142 : Value).ownBlock ∧ some k_ ≠ (.slice Ao37 x10_3.length co37 : Value).ownBlock) ho0 (fun k_ hk_ => ⟨Or.elim hk_ (fun hs_ => fun e_ => (((HO_8.out).1 k_ e_.symm).2) hs_) (fun hn_ => (Kd.fresh' (Kd.R_lt (kr HO_8)) k_ hn_)), Or.elim hk_ (fun hs_ => fun e_ => (((HO_10.out).1 k_ e_.symm).2) hs_) (fun hn_ => (Kd.fresh' (Kd.R_lt (kr HO_10)) k_ hn_))⟩)); replace HO_8 := Aside0.mk (Kd.R_mono (ok' := fun k_ => some k_ ≠ (.slice Ao37 x10_3.length co37 : Value).ownBlock ∧ some k_ ≠ (v163 : Value).ownBlock) (Kd.R_keptB (HO_8.out) hkp (fun k_ hk_ hs_ => (hk_.2) hs_)) (fun k_ hk_ => ⟨hk_.1.1, fun e_ => Or.elim (ho0.1 k_ e_.symm) (fun hs_ => hk_.2.1 hs_) (fun hn_ => Nat.not_le.2 hk_.2.2 hn_)⟩)); replace HO_10 := Aside0.mk (Kd.R_mono (ok' := fun k_ => some k_ ≠ (v142 : Value).ownBlock ∧ some k_ ≠ (v163 : Value).ownBlock) (Kd.R_keptB (HO_10.out) hkp (fun k_ hk_ hs_ => (hk_.2) hs_)) (fun k_ hk_ => ⟨hk_.1.1, fun e_ => Or.elim (ho0.1 k_ e_.symm) (fun hs_ => hk_.2.1 hs_) (fun hn_ => Nat.not_le.2 hk_.2.2 hn_)⟩)); replace HB := Aside0.mk (hb); clear HO160; (try clear hb); (try clear hkp); (try clear ho0); obtain ⟨Ao42, co42, eo42⟩ := Kd.R_slice HO_9.out; subst eo42; have p165 : 0 ≤ (x13_3 : Int) := of_decide_eq_true (by first | (with_reducible assumption) | assumption); have q165 : x13_3 < (t141.length : Int) := of_decide_eq_true (by first | (with_reducible assumption) | assumption); obtain ⟨ad165, e165, hx165_0⟩ := Kd.at_int (Kd.R_reads' HO_9.out).2.2 x13_3 p165 q165; cases e165; replace p165 := eq_true p165; replace q165 := eq_true q165) | ((with_reducible refine gate_builtin (b := .append) (xs := #[.tmp 82, .tmp 88]) rfl ?_); at_builtin; refine Kd.R_append (Kd.int .u8) (w0 := w) w.heap.size rfl (.tmp 82) (.tmp 88) 33 5 (.int .u8 0) 1 rfl Try.underlying33 info5 rfl (by decide) (by omega) v163 t162 ((rd t141 x13_3) % 256) [.int .u8 ((rd t141 x13_3) % 256)] (fun k_ => some k_ ≠ (v142 : Value).ownBlock ∧ some k_ ≠ (.slice Ao37 x10_3.length co37 : Value).ownBlock) (fun _ => False) rfl rfl ?aP (fun _ hk => hk.elim) ?aF ?aO ?aB ?aS ?aL ?_; (case aP => exact rfl); (case aB => exact (Sq.kl2 HB GE138 GE139)); (case aF => exact (fun k_ hk => ⟨Kd.fresh' (Kd.R_lt (kr HO_8)) k_ hk, Kd.fresh' (Kd.R_lt (kr HO_10)) k_ hk⟩)); (case aO => exact (kr HO164)); (case aS => exact (below_size (Sq.kl2 HB GE138 GE139))); (case aL => have := LMc34.out; omega); intro v167 w43 ho hb hg hat; rw [← Ny166.out] at ho; replace HO_8 := Aside0.mk (Kd.R_after (ok := (fun k_ => some k_ ≠ (.slice Ao37 x10_3.length co37 : Value).ownBlock)) (kr HO_8) hg hat); replace HO_9 := Aside0.mk (Kd.R_over' (kr HO_9) (Kd.R_typed (kr HO164)) (by decide) hg); replace HO_10 := Aside0.mk (Kd.R_after (ok := (fun k_ => some k_ ≠ (v142 : Value).ownBlock)) (kr HO_10) hg hat); replace BK138 := Aside0.mk (blk_grown (g := gb138) (o := .cells #[.slice (some ad157) l0_0.length c0_0, .slice A0_1 l0_1.length c0_1, .slice A0_2 l0_2.length c0_2, .slice A0_3 l0_3.length c0_3, .slice A0_4 l0_4.length c0_4] 31 (0, 0)) (kb BK138) hg (Kd.R_ne HO164.out BK138.out (by decide))); replace BK139 := Aside0.mk (blk_grown (g := gb139) (o := .cells #[.int .i64 0, .int .i64 0, .int .i64 0, .int .i64 0, .int .i64 0, .int .i64 0, .int .i64 0] 41 (0, 0)) (kb BK139) hg (Kd.R_ne HO164.out BK139.out (by decide))); replace HB := Aside0.mk (hb); have HO168 := Aside0.mk (ho); clear HO164; clear ho hb hg hat))
     go_roundg k3
     case measure => have := HK1.out; have := HK2.out; have := HK3.out; omega
     case rel => exact ⟨(y166), (wrap64 (x13_3 + 1)), (by first | rfl | (simp; done) | (simp [*]; done)), H', ⟨by have := HK1.out; have := HK2.out; have := HK3.out; omega⟩, ⟨by (with_reducible repeat (first | apply Kd.R_alloc | apply Kd.R_drewN | apply Kd.R_drew)); exact Kd.R_mono HO_8.out (fun _ hk => hk.2)⟩, ⟨by (with_reducible repeat (first | apply Kd.R_alloc | apply Kd.R_drewN | apply Kd.R_drew)); exact HO_9.out⟩, ⟨by (with_reducible repeat (first | apply Kd.R_alloc | apply Kd.R_drewN | apply Kd.R_drew)); exact Kd.R_mono HO168.out (fun _ hk => hk.1)⟩, ⟨Sq.kb BK138⟩, ⟨Sq.kb BK139⟩, ⟨Sq.kl2 HB GE138 GE139⟩⟩
    rw [if_neg c29] at H
    have c29b0 : decide (x13_3 < (l0_0.length : Int)) = false := decide_eq_false c29
    clear c29
    by_cases c44 : x10_3.length + t140.length < 140737488355328
    rotate_left
    ·
     rw [if_neg c44] at H
     exact absurd H (by simp)
    rw [if_pos c44] at H
    have LMc44 := Aside0.mk c44
    clear c44
    obtain ⟨y169, hy169⟩ : ∃ y_ : List Int, y_ = (x10_3 ++ t140) := ⟨_, rfl⟩
    replace H : (longcaseref06_Encode.l3 k3 a1 a2 t140 y169 0 l0_0 l0_1 l0_2 l0_3 l0_4) = some (r1, r2, r3, r4, r5, r6, r7, r8) := by first | (rw [hy169]; with_reducible exact H) | (have H2_ := (Option.bind_some _ _).symm.trans H; rw [hy169]; with_reducible exact H2_) | (have H2_ := (Option.bind_some _ _).symm.trans H; with_reducible exact H2_) | with_reducible exact H | (rw [hy169]; exact H) | exact H
    have Ny169 := Aside0.mk hy169
    clear hy169
    have H' := Aside0.mk H
    clear H
    have hnb45 := NB138_139.out
    have hnc45 := NB139_138.out
    obtain ⟨hcz46_0, hcz46_1, hcz46_2, hcz46_3, hcz46_4⟩ := Sq.c5 BK138
    obtain ⟨hfz46_0, hfz46_1, hfz46_2, hfz46_3, hfz46_4⟩ := Sq.z5 BK138
    obtain ⟨Ao48, co48, eo48⟩ := Kd.R_slice HO_8.out
    subst eo48
    go_wp2_with (first | ((with_reducible refine gate_builtin (b := .append) (xs := #[.tmp 90, .tmp 91]) rfl ?_); at_builtin; refine Kd.R_append_rows (Kd.int .u8) (w0 := w) w.heap.size rfl (.tmp 90) (.tmp 91) 33 5 (.int .u8 0) 1 rfl Try.underlying33 info5 rfl (by decide) (by omega) u10 x10_3 t140 _ _ _ (fun k_ => some k_ ≠ (.slice Ao48 t140.length co48 : Value).ownBlock) (fun _ => False) rfl rfl ?aO ?aR (fun _ _ h => h) (fun _ h => h.elim) ?aF ?aB ?aS ?aL ?_; (case aR => repeat (first | exact (Kd.R_reads' HO_8.out).2.2 | (with_reducible refine Kd.C_alloc ?_ _) | (with_reducible refine Kd.C_drewN ?_ _) | (with_reducible refine Kd.C_drew ?_))); (case aB => exact (Sq.kl2 HB GE138 GE139)); (case aF => exact (fun k_ hk => Kd.fresh' (Kd.R_lt (kr HO_8)) k_ hk)); (case aO => exact (kr HO_10)); (case aS => exact (below_size (Sq.kl2 HB GE138 GE139))); (case aL => have := LMc44.out; omega); intro v170 w47 ho hb hg hat; rw [← Ny169.out] at ho; replace HO_8 := Aside0.mk (Kd.R_after (ok := (fun _ => True)) (by (with_reducible repeat (first | apply Kd.R_alloc | apply Kd.R_drewN | apply Kd.R_drew)); exact Kd.R_mono HO_8.out (fun _ hk => ⟨trivial, hk⟩)) hg hat); replace HO_9 := Aside0.mk (Kd.R_over' (kr HO_9) (Kd.R_typed (kr HO_10)) (by decide) hg); replace BK138 := Aside0.mk (blk_grown (g := gb138) (o := .cells #[.slice A0_0 l0_0.length c0_0, .slice A0_1 l0_1.length c0_1, .slice A0_2 l0_2.length c0_2, .slice A0_3 l0_3.length c0_3, .slice A0_4 l0_4.length c0_4] 31 (0, 0)) (kb BK138) hg (Kd.R_ne HO_10.out BK138.out (by decide))); replace BK139 := Aside0.mk (blk_grown (g := gb139) (o := .cells #[.int .i64 0, .int .i64 0, .int .i64 0, .int .i64 0, .int .i64 0, .int .i64 0, .int .i64 0] 41 (0, 0)) (kb BK139) hg (Kd.R_ne HO_10.out BK139.out (by decide))); replace HB := Aside0.mk (hb); have HO171 := Aside0.mk (ho); clear HO_10; clear ho hb hg hat))
    go_loopg [10, 14] k3 (fun kq v10 v14 w' => ∃ (x10_4 : List Int) (x14_4 : Int), v14 = .int .i64 x14_4 ∧ Aside0 (longcaseref06_Encode.l3 kq a1 a2 t140 x10_4 x14_4 l0_0 l0_1 l0_2 l0_3 l0_4 = some (r1, r2, r3, r4, r5, r6, r7, r8)) ∧ Aside0 (kq ≤ k3) ∧ Aside0 (Kd.R (Kd.int .u8) 5 w' w.heap.size (fun k_ => some k_ ≠ (v10 : Value).ownBlock) (.slice Ao48 t140.length co48) t140) ∧ Aside0 (Kd.R (Kd.int .u8) 5 w' w.heap.size (fun k_ => some k_ ≠ ((.slice Ao48 t140.length co48) : Value).ownBlock) v10 x10_4) ∧ Aside0 (w'.heap[gb138]? = some (.cells #[(.slice A0_0 l0_0.length c0_0), (.slice A0_1 l0_1.length c0_1), (.slice A0_2 l0_2.length c0_2), (.slice A0_3 l0_3.length c0_3), (.slice A0_4 l0_4.length c0_4)] 31 (0, 0))) ∧ Aside0 (w'.heap[gb139]? = some (.cells #[.int .i64 0, .int .i64 0, .int .i64 0, .int .i64 0, .int .i64 0, .int .i64 0, .int .i64 0] 41 (0, 0))) ∧ Aside0 (Below w.heap.size w w'))
    case atStart => exact ⟨(y169), (0), (by first | rfl | (simp; done) | (simp [*]; done)), H', ⟨Nat.le_refl _⟩, ⟨by (with_reducible repeat (first | apply Kd.R_alloc | apply Kd.R_drewN | apply Kd.R_drew)); exact Kd.R_mono HO_8.out (fun _ hk => hk.2)⟩, ⟨by (with_reducible repeat (first | apply Kd.R_alloc | apply Kd.R_drewN | apply Kd.R_drew)); exact HO171.out⟩, ⟨Sq.kb BK138⟩, ⟨Sq.kb BK139⟩, ⟨Sq.kl2 HB GE138 GE139⟩⟩
    clear H'
    try clear c1
    try clear p1
    try clear q1
    try clear hx1
    try clear c2
    try clear p2
    try clear c3
    try clear c4
    try clear p6
    try clear c7
    try clear c12
    try clear c12b0
    try clear c13
    try clear c13b0
    try clear p14
    try clear q14
    try clear hx14
    try clear c15
    try clear p15
    try clear q15
    try clear hx15
    try clear p16
    try clear q16
    try clear hx16
    try clear c18
    try clear c19
    try clear c21
    try clear c21b0
    try clear c22
    try clear c22b0
    try clear c23
    try clear c24
    try clear c27
    try clear c29
    try clear c29b0
    try clear c30
    try clear c30b0
    try clear c33
    try clear c33b0
    try clear c34
    try clear c35
    try clear c44
    try clear c45
    try clear hcz16_0
    try clear hcz16_1
    try clear hcz16_2
    try clear hcz16_3
    try clear hcz16_4
    try clear hcz20_0
    try clear hcz20_1
    try clear hcz20_2
    try clear hcz20_3
    try clear hcz20_4
    try clear hcz25_0
    try clear hcz25_1
    try clear hcz25_2
    try clear hcz25_3
    try clear hcz25_4
    try clear hcz28_0
    try clear hcz28_1
    try clear hcz28_2
    try clear hcz28_3
    try clear hcz28_4
    try clear hcz36_0
    try clear hcz36_1
    try clear hcz36_2
    try clear hcz36_3
    try clear hcz36_4
    try clear hcz39_0
    try clear hcz39_1
    try clear hcz39_2
    try clear hcz39_3
    try clear hcz39_4
    try clear hcz46_0
    try clear hcz46_1
    try clear hcz46_2
    try clear hcz46_3
    try clear hcz46_4
    try clear hcz8_0
    try clear hcz8_1
    try clear hcz8_2
    try clear hcz8_3
    try clear hcz8_4
    try clear hfz16_0
    try clear hfz16_1
    try clear hfz16_2
    try clear hfz16_3
    try clear hfz16_4
    try clear hfz20_0
    try clear hfz20_1
    try clear hfz20_2
    try clear hfz20_3
    try clear hfz20_4
    try clear hfz25_0
    try clear hfz25_1
    try clear hfz25_2
    try clear hfz25_3
    try clear hfz25_4
    try clear hfz28_0
    try clear hfz28_1
    try clear hfz28_2
    try clear hfz28_3
    try clear hfz28_4
    try clear hfz36_0
    try clear hfz36_1
    try clear hfz36_2
    try clear hfz36_3
    try clear hfz36_4
    try clear hfz39_0
    try clear hfz39_1
    try clear hfz39_2
    try clear hfz39_3
    try clear hfz39_4
    try clear hfz46_0
    try clear hfz46_1
    try clear hfz46_2
    try clear hfz46_3
    try clear hfz46_4
    try clear hfz8_0
    try clear hfz8_1
    try clear hfz8_2
    try clear hfz8_3
    try clear hfz8_4
    try clear hx149_0
    try clear hx149_1
    try clear hx153_0
    try clear hx153_1
    try clear hx157_0
    try clear hx157_1
    try clear hx157_2
    try clear hx161_0
    try clear hx161_1
    try clear hx161_2
    try clear hx165_0
    try clear p1
    try clear p14
    try clear p149
    try clear p15
    try clear p153
    try clear p157
    try clear p161
    try clear p165
    try clear p2
    try clear p6
    try clear q1
    try clear q14
    try clear q149
    try clear q15
    try clear q153
    try clear q157
    try clear q161
    try clear q165
    obtain ⟨x10_4, x14_4, rfl, HA, HK4, HO_8, HO_10, BK138, BK139, HB⟩ := hrel
    cases gk with
    | zero => exact absurd HA.out (by simp [longcaseref06_Encode.l3])
    | succ k4 =>
     have H := HA.out
     clear HA
     simp only [longcaseref06_Encode.l3] at H
     by_cases c49 : x14_4 < (l0_2.length : Int)
     ·
      rw [if_pos c49] at H
      have c49b0 : decide (x14_4 < (l0_2.length : Int)) = true := decide_eq_true c49
      clear c49
      by_cases c50 : 0 ≤ x14_4
      rotate_left
      ·
       rw [if_neg c50] at H
       exact absurd H (by simp)
      rw [if_pos c50] at H
      have c50b0 : decide (0 ≤ x14_4) = true := decide_eq_true c50
      clear c50
      replace H := Option.bind_eq_some_iff.mp H
      obtain ⟨t173, A510, H⟩ := H
      replace H : ((longcaseref04_Put.f k4 t173 4 (IntKind.u64.wrap ((rd_T67 l0_2 x14_4).f1))).bind fun t177 => (longcaseref06_Encode.l3 k4 a1 a2 t140 t177 (wrap64 (x14_4 + 1)) l0_0 l0_1 l0_2 l0_3 l0_4)) = some (r1, r2, r3, r4, r5, r6, r7, r8) := H
      have A51 := Aside0.mk A510
      clear A510
      replace H := Option.bind_eq_some_iff.mp H
      obtain ⟨t177, A520, H⟩ := H
      replace H : (longcaseref06_Encode.l3 k4 a1 a2 t140 t177 (wrap64 (x14_4 + 1)) l0_0 l0_1 l0_2 l0_3 l0_4) = some (r1, r2, r3, r4, r5, r6, r7, r8) := H
      have A52 := Aside0.mk A520
      clear A520
      have H' := Aside0.mk H
      clear H
      have hnb53 := NB138_139.out
      have hnc53 := NB139_138.out
      obtain ⟨hcz54_0, hcz54_1, hcz54_2, hcz54_3, hcz54_4⟩ := Sq.c5 BK138
      obtain ⟨hfz54_0, hfz54_1, hfz54_2, hfz54_3, hfz54_4⟩ := Sq.z5 BK138
      have p172 : 0 ≤ (x14_4 : Int) := of_decide_eq_true (by first | (with_reducible assumption) | assumption)
      have q172 : x14_4 < (l0_2.length : Int) := of_decide_eq_true (by first | (with_reducible assumption) | assumption)
      obtain ⟨ad172, e172, hx172_0, hx172_1⟩ := at_T67 HR0_2.out x14_4 p172 q172
      cases e172
      replace hx172_0 := (HB.out.cell (World.block_lt_of_cell? w _ hx172_0)).trans hx172_0
      replace hx172_1 := (HB.out.cell (World.block_lt_of_cell? w _ hx172_1)).trans hx172_1
      replace p172 := eq_true p172
      replace q172 := eq_true q172
      obtain ⟨Ao55, co55, eo55⟩ := Kd.R_slice HO_10.out
      subst eo55
      go_wp2_with (first | ((with_reducible refine gate_callee (f := 34) rfl ?_); refine goesL_ (some 109) rfl rfl Try.func34 (by kernel_rfl) rfl #[.slice Ao55 x10_4.length co55, .int .i64 a1, .int .u64 (IntKind.u64.wrap ((rd_T67 l0_2 x14_4).f0))] rfl (by (try simp only [List.map_toArray, List.map_cons, List.map_nil]); first | done | rfl | (simp only [List.length_drop, List.length_take]; rfl)) ?_; (with_reducible refine (longcaseref04_Put.calls k4 _ _ x10_4 a1 (IntKind.u64.wrap ((rd_T67 l0_2 x14_4).f0)) t173 _ ?side1 ?side2 A51.out).mono ?_); (case side1 => exact Sq.qc HO_10); (case side2 => exact Sq.ql HO_10); rintro e w56 ⟨v174, rfl, ho0, hb⟩; refine ⟨_, rfl, ?_⟩; have HO175 := Aside0.mk (Kd.R_lower (Kd.R_new' (Kd.R_new' ho0 (Kd.R_lt (kr HO_8))) (Kd.R_lt (kr HO_10))) (below_size (Sq.kl2 HB GE138 GE139))); replace HO_8 := Aside0.mk (Kd.R_elder' (kr HO_8) (Kd.R_base ho0) hb); replace HO_10 := Aside0.mk (Kd.R_elder' (kr HO_10) (Kd.R_base ho0) hb); replace BK138 := kbb BK138 hb; replace BK139 := kbb BK139 hb; replace HB := Aside0.mk (below_step (Sq.kl2 HB GE138 GE139) hb); (try clear hb); (try clear ho0); obtain ⟨hcz57_0, hcz57_1, hcz57_2, hcz57_3, hcz57_4⟩ := Sq.c5 BK138; obtain ⟨hfz57_0, hfz57_1, hfz57_2, hfz57_3, hfz57_4⟩ := Sq.z5 BK138; have p176 : 0 ≤ (x14_4 : Int) := of_decide_eq_true (by first | (with_reducible assumption) | assumption); have q176 : x14_4 < (l0_2.length : Int) := of_decide_eq_true (by first | (with_reducible assumption) | assumption); obtain ⟨ad176, e176, hx176_0, hx176_1⟩ := at_T67 HR0_2.out x14_4 p176 q176; obtain rfl : ad172 = ad176 := (by injection e176); replace hx176_0 := (HB.out.cell (World.block_lt_of_cell? w _ hx176_0)).trans hx176_0; replace hx176_1 := (HB.out.cell (World.block_lt_of_cell? w _ hx176_1)).trans hx176_1; replace p176 := eq_true p176; replace q176 := eq_true q176; obtain ⟨Ao58, co58, eo58⟩ := Kd.R_slice HO175.out; subst eo58) | ((with_reducible refine gate_callee (f := 34) rfl ?_); refine goesL_ (some 118) rfl rfl Try.func34 (by kernel_rfl) rfl #[.slice Ao58 t173.length co58, .int .i64 4, .int .u64 (IntKind.u64.wrap ((rd_T67 l0_2 x14_4).f1))] rfl (by (try simp only [List.map_toArray, List.map_cons, List.map_nil]); first | done | rfl | (simp only [List.length_drop, List.length_take]; rfl)) ?_; (with_reducible refine (longcaseref04_Put.calls k4 _ _ t173 4 (IntKind.u64.wrap ((rd_T67 l0_2 x14_4).f1)) t177 _ ?side1 ?side2 A52.out).mono ?_); (case side1 => exact Sq.qc HO175); (case side2 => exact Sq.ql HO175); rintro e w59 ⟨v178, rfl, ho0, hb⟩; refine ⟨_, rfl, ?_⟩; have HO179 := Aside0.mk (Kd.R_lower (Kd.R_new' (Kd.R_new' (Kd.R_new' ho0 (Kd.R_lt (kr HO_8))) (Kd.R_lt (kr HO_10))) (Kd.R_lt (kr HO175))) (below_size (Sq.kl2 HB GE138 GE139))); replace HO_8 := Aside0.mk (Kd.R_elder' (kr HO_8) (Kd.R_base ho0) hb); replace HO_10 := Aside0.mk (Kd.R_elder' (kr HO_10) (Kd.R_base ho0) hb); replace HO175 := Aside0.mk (Kd.R_elder' (kr HO175) (Kd.R_base ho0) hb); replace BK138 := kbb BK138 hb; replace BK139 := kbb BK139 hb; replace HB := Aside0.mk (below_step (Sq.kl2 HB GE138 GE139) hb); (try clear hb); (try clear ho0)))
      go_roundg k4
      case measure => have := HK1.out; have := HK2.out; have := HK3.out; have := HK4.out; omega
      case rel => exact ⟨(t177), (wrap64 (x14_4 + 1)), (by first | rfl | (simp; done) | (simp [*]; done)), H', ⟨by have := HK1.out; have := HK2.out; have := HK3.out; have := HK4.out; omega⟩, ⟨by (with_reducible repeat (first | apply Kd.R_alloc | apply Kd.R_drewN | apply Kd.R_drew)); exact Kd.R_mono HO_8.out (fun _ hk => hk.2)⟩, ⟨by (with_reducible repeat (first | apply Kd.R_alloc | apply Kd.R_drewN | apply Kd.R_drew)); exact Kd.R_mono HO179.out (fun _ hk => hk.1.1.2)⟩, ⟨Sq.kb BK138⟩, ⟨Sq.kb BK139⟩, ⟨Sq.kl2 HB GE138 GE139⟩⟩
     rw [if_neg c49] at H
     have c49b0 : decide (x14_4 < (l0_2.length : Int)) = false := decide_eq_false c49
     clear c49
     have H' := Aside0.mk H
     clear H
     have hnb60 := NB138_139.out
     have hnc60 := NB139_138.out
     obtain ⟨hcz61_0, hcz61_1, hcz61_2, hcz61_3, hcz61_4⟩ := Sq.c5 BK138
     obtain ⟨hfz61_0, hfz61_1, hfz61_2, hfz61_3, hfz61_4⟩ := Sq.z5 BK138
     go_wp2
     go_loopg [10, 15] k4 (fun kq v10 v15 w' => ∃ (x10_5 : List Int) (x15_5 : Int), v15 = .int .i64 x15_5 ∧ Aside0 (longcaseref06_Encode.l4 kq a2 t140 x10_5 x15_5 l0_0 l0_1 l0_2 l0_3 l0_4 = some (r1, r2, r3, r4, r5, r6, r7, r8)) ∧ Aside0 (kq ≤ k4) ∧ Aside0 (Kd.R (Kd.int .u8) 5 w' w.heap.size (fun k_ => some k_ ≠ (v10 : Value).ownBlock) (.slice Ao48 t140.length co48) t140) ∧ Aside0 (Kd.R (Kd.int .u8) 5 w' w.heap.size (fun k_ => some k_ ≠ ((.slice Ao48 t140.length co48) : Value).ownBlock) v10 x10_5) ∧ Aside0 (w'.heap[gb138]? = some (.cells #[(.slice A0_0 l0_0.length c0_0), (.slice A0_1 l0_1.length c0_1), (.slice A0_2 l0_2.length c0_2), (.slice A0_3 l0_3.length c0_3), (.slice A0_4 l0_4.length c0_4)] 31 (0, 0))) ∧ Aside0 (w'.heap[gb139]? = some (.cells #[.int .i64 0, .int .i64 0, .int .i64 0, .int .i64 0, .int .i64 0, .int .i64 0, .int .i64 0] 41 (0, 0))) ∧ Aside0 (Below w.heap.size w w'))
     case atStart => exact ⟨(x10_4), (0), (by first | rfl | (simp; done) | (simp [*]; done)), H', ⟨Nat.le_refl _⟩, ⟨by (with_reducible repeat (first | apply Kd.R_alloc | apply Kd.R_drewN | apply Kd.R_drew)); exact HO_8.out⟩, ⟨by (with_reducible repeat (first | apply Kd.R_alloc | apply Kd.R_drewN | apply Kd.R_drew)); exact HO_10.out⟩, ⟨Sq.kb BK138⟩, ⟨Sq.kb BK139⟩, ⟨Sq.kl2 HB GE138 GE139⟩⟩
     clear H'
     try clear c1
     try clear p1
     try clear q1
     try clear hx1
     try clear c2
     try clear p2
     try clear c3
     try clear c4
     try clear c5
     try clear c6
     try clear p6
     try clear c7
     try clear c12
     try clear c12b0
     try clear c13
     try clear c13b0
     try clear p14
     try clear q14
     try clear hx14
     try clear c15
     try clear p15
     try clear q15
     try clear hx15
     try clear p16
     try clear q16
     try clear hx16
     try clear p17
     try clear q17
     try clear hx17
     try clear c18
     try clear c19
     try clear c21
     try clear c21b0
     try clear c22
     try clear c22b0
     try clear c23
     try clear c24
     try clear c27
     try clear c29
     try clear c29b0
     try clear c30
     try clear c30b0
     try clear c33
     try clear c33b0
     try clear c34
     try clear c35
     try clear c44
     try clear c45
     try clear c49
     try clear c49b0
     try clear c50
     try clear c50b0
     try clear c53
     try clear c60
     try clear hcz16_0
     try clear hcz16_1
     try clear hcz16_2
     try clear hcz16_3
     try clear hcz16_4
     try clear hcz20_0
     try clear hcz20_1
     try clear hcz20_2
     try clear hcz20_3
     try clear hcz20_4
     try clear hcz25_0
     try clear hcz25_1
     try clear hcz25_2
     try clear hcz25_3
     try clear hcz25_4
     try clear hcz28_0
     try clear hcz28_1
     try clear hcz28_2
     try clear hcz28_3
     try clear hcz28_4
     try clear hcz36_0
     try clear hcz36_1
     try clear hcz36_2
     try clear hcz36_3
     try clear hcz36_4
     try clear hcz39_0
     try clear hcz39_1
     try clear hcz39_2
     try clear hcz39_3
     try clear hcz39_4
     try clear hcz46_0
     try clear hcz46_1
     try clear hcz46_2
     try clear hcz46_3
     try clear hcz46_4
     try clear hcz54_0
     try clear hcz54_1
     try clear hcz54_2
     try clear hcz54_3
     try clear hcz54_4
     try clear hcz57_0
     try clear hcz57_1
     try clear hcz57_2
     try clear hcz57_3
     try clear hcz57_4
     try clear hcz61_0
     try clear hcz61_1
     try clear hcz61_2
     try clear hcz61_3
     try clear hcz61_4
     try clear hcz8_0
     try clear hcz8_1
     try clear hcz8_2
     try clear hcz8_3
     try clear hcz8_4
     try clear hfz16_0
     try clear hfz16_1
     try clear hfz16_2
     try clear hfz16_3
     try clear hfz16_4
     try clear hfz20_0
     try clear hfz20_1
     try clear hfz20_2
     try clear hfz20_3
     try clear hfz20_4
     try clear hfz25_0
     try clear hfz25_1
     try clear hfz25_2
     try clear hfz25_3
     try clear hfz25_4
     try clear hfz28_0
     try clear hfz28_1
     try clear hfz28_2
     try clear hfz28_3
     try clear hfz28_4
     try clear hfz36_0
     try clear hfz36_1
     try clear hfz36_2
     try clear hfz36_3
     try clear hfz36_4
     try clear hfz39_0
     try clear hfz39_1
     try clear hfz39_2
     try clear hfz39_3
     try clear hfz39_4
     try clear hfz46_0
     try clear hfz46_1
     try clear hfz46_2
     try clear hfz46_3
     try clear hfz46_4
     try clear hfz54_0
     try clear hfz54_1
     try clear hfz54_2
     try clear hfz54_3
     try clear hfz54_4
     try clear hfz57_0
     try clear hfz57_1
     try clear hfz57_2
     try clear hfz57_3
     try clear hfz57_4
     try clear hfz61_0
     try clear hfz61_1
     try clear hfz61_2
     try clear hfz61_3
     try clear hfz61_4
     try clear hfz8_0
     try clear hfz8_1
     try clear hfz8_2
     try clear hfz8_3
     try clear hfz8_4
     try clear hx149_0
     try clear hx149_1
     try clear hx153_0
     try clear hx153_1
     try clear hx157_0
     try clear hx157_1
     try clear hx157_2
     try clear hx161_0
     try clear hx161_1
     try clear hx161_2
     try clear hx165_0
     try clear hx172_0
     try clear hx172_1
     try clear hx176_0
     try clear hx176_1
     try clear p1
     try clear p14
     try clear p149
     try clear p15
     try clear p153
     try clear p157
     try clear p16
     try clear p161
     try clear p165
     try clear p172
     try clear p176
     try clear p2
     try clear p6
     try clear q1
     try clear q14
     try clear q149
     try clear q15
     try clear q153
     try clear q157
     try clear q16
     try clear q161
     try clear q165
     try clear q172
     try clear q176
     obtain ⟨x10_5, x15_5, rfl, HA, HK5, HO_8, HO_10, BK138, BK139, HB⟩ := hrel
     cases gk with
     | zero => exact absurd HA.out (by simp [longcaseref06_Encode.l4])
     | succ k5 =>
      have H := HA.out
      clear HA
      simp only [longcaseref06_Encode.l4] at H
      by_cases c62 : x15_5 < (l0_3.length : Int)
      ·
       rw [if_pos c62] at H
       have c62b0 : decide (x15_5 < (l0_3.length : Int)) = true := decide_eq_true c62
       clear c62
       by_cases c63 : 0 ≤ x15_5
       rotate_left
       ·
        rw [if_neg c63] at H
        exact absurd H (by simp)
       rw [if_pos c63] at H
       have c63b0 : decide (0 ≤ x15_5) = true := decide_eq_true c63
       clear c63
       replace H := Option.bind_eq_some_iff.mp H
       obtain ⟨t181, A640, H⟩ := H
       replace H : (longcaseref06_Encode.l4 k5 a2 t140 t181 (wrap64 (x15_5 + 1)) l0_0 l0_1 l0_2 l0_3 l0_4) = some (r1, r2, r3, r4, r5, r6, r7, r8) := H
       have A64 := Aside0.mk A640
       clear A640
       have H' := Aside0.mk H
       clear H
       have hnb65 := NB138_139.out
       have hnc65 := NB139_138.out
       obtain ⟨hcz66_0, hcz66_1, hcz66_2, hcz66_3, hcz66_4⟩ := Sq.c5 BK138
       obtain ⟨hfz66_0, hfz66_1, hfz66_2, hfz66_3, hfz66_4⟩ := Sq.z5 BK138
       have p180 : 0 ≤ (x15_5 : Int) := of_decide_eq_true (by first | (with_reducible assumption) | assumption)
       have q180 : x15_5 < (l0_3.length : Int) := of_decide_eq_true (by first | (with_reducible assumption) | assumption)
       obtain ⟨ad180, e180, hx180_0⟩ := Kd.at_bool HR0_3.out x15_5 p180 q180
       cases e180
       replace hx180_0 := (HB.out.cell (World.block_lt_of_cell? w _ hx180_0)).trans hx180_0
       replace p180 := eq_true p180
       replace q180 := eq_true q180
       obtain ⟨Ao67, co67, eo67⟩ := Kd.R_slice HO_10.out
       subst eo67
       go_wp2_with (first | ((with_reducible refine gate_callee (f := 35) rfl ?_); refine goesL_ (some 132) rfl rfl Try.func35 (by kernel_rfl) rfl #[.slice Ao67 x10_5.length co67, .bool (rdOf false l0_3 x15_5)] rfl (by (try simp only [List.map_toArray, List.map_cons, List.map_nil]); first | done | rfl | (simp only [List.length_drop, List.length_take]; rfl)) ?_; (with_reducible refine (longcaseref06_truth.calls (fun k_ => some k_ = (.slice Ao67 x10_5.length co67 : Value).ownBlock) (.slice Ao67 x10_5.length co67) x10_5 (rdOf false l0_3 x15_5) t181 w _ ?side1 ?side2 A64.out).mono ?_); (case side1 => repeat (first | (with_reducible first | exact HB.out | apply below_alloc | apply pw_below_drewN | apply below_drew1 | refine below_set ?_ GE138.out | refine below_set ?_ GE139.out) | exact HB.out)); (case side2 => exact Kd.R_tight rfl HO_10.out); rintro e w68 ⟨v182, rfl, ho0, hb, hkp⟩; refine ⟨_, rfl, ?_⟩; replace BK138 := Aside0.mk (blk_kept (kb BK138) hkp (fun hs_ => (fun e_ => (Kd.R_ne HO_10.out BK138.out (by decide)) e_) hs_)); replace BK139 := Aside0.mk (blk_kept (kb BK139) hkp (fun hs_ => (fun e_ => (Kd.R_ne HO_10.out BK139.out (by decide)) e_) hs_)); have HO183 := Aside0.mk (Kd.R_mono (ok' := fun k_ => some k_ ≠ (.slice Ao48 t140.length co48 : Value).ownBlock) ho0 (fun k_ hk_ => Or.elim hk_ (fun hs_ => fun e_ => (((HO_8.out).1 k_ e_.symm)) hs_) (fun hn_ => (Kd.fresh' (Kd.R_lt (kr HO_8)) k_ hn_)))); replace HO_8 := Aside0.mk (Kd.R_mono (ok' := fun k_ => some k_ ≠ (v182 : Value).ownBlock) (Kd.R_keptB (HO_8.out) hkp (fun k_ hk_ hs_ => (hk_) hs_)) (fun k_ hk_ => fun e_ => Or.elim (ho0.1 k_ e_.symm) (fun hs_ => hk_.2.1 hs_) (fun hn_ => Nat.not_le.2 hk_.2.2 hn_))); replace HB := Aside0.mk (hb); clear HO_10; (try clear hb); (try clear hkp); (try clear ho0)))
       go_roundg k5
       case measure => have := HK1.out; have := HK2.out; have := HK3.out; have := HK4.out; have := HK5.out; omega
       case rel => exact ⟨(t181), (wrap64 (x15_5 + 1)), (by first | rfl | (simp; done) | (simp [*]; done)), H', ⟨by have := HK1.out; have := HK2.out; have := HK3.out; have := HK4.out; have := HK5.out; omega⟩, ⟨by (with_reducible repeat (first | apply Kd.R_alloc | apply Kd.R_drewN | apply Kd.R_drew)); exact HO_8.out⟩, ⟨by (with_reducible repeat (first | apply Kd.R_alloc | apply Kd.R_drewN | apply Kd.R_drew)); exact HO183.out⟩, ⟨Sq.kb BK138⟩, ⟨Sq.kb BK139⟩, ⟨Sq.kl2 HB GE138 GE139⟩⟩
      rw [if_neg c62] at H
      have c62b0 : decide (x15_5 < (l0_3.length : Int)) = false := decide_eq_false c62
      clear c62
      have H' := Aside0.mk H
      clear H
      have hnb69 := NB138_139.out
      have hnc69 := NB139_138.out
      obtain ⟨hcz70_0, hcz70_1, hcz70_2, hcz70_3, hcz70_4⟩ := Sq.c5 BK138
      obtain ⟨hfz70_0, hfz70_1, hfz70_2, hfz70_3, hfz70_4⟩ := Sq.z5 BK138
      go_wp2
      go_loopg [10, 16] k5 (fun kq v10 v16 w' => ∃ (x10_6 : List Int) (x16_6 : Int), v16 = .int .i64 x16_6 ∧ Aside0 (longcaseref06_Encode.l5 kq a2 t140 x10_6 x16_6 l0_0 l0_1 l0_2 l0_3 l0_4 = some (r1, r2, r3, r4, r5, r6, r7, r8)) ∧ Aside0 (kq ≤ k5) ∧ Aside0 (Kd.R (Kd.int .u8) 5 w' w.heap.size (fun k_ => some k_ ≠ (v10 : Value).ownBlock) (.slice Ao48 t140.length co48) t140) ∧ Aside0 (Kd.R (Kd.int .u8) 5 w' w.heap.size (fun k_ => some k_ ≠ ((.slice Ao48 t140.length co48) : Value).ownBlock) v10 x10_6) ∧ Aside0 (w'.heap[gb138]? = some (.cells #[(.slice A0_0 l0_0.length c0_0), (.slice A0_1 l0_1.length c0_1), (.slice A0_2 l0_2.length c0_2), (.slice A0_3 l0_3.length c0_3), (.slice A0_4 l0_4.length c0_4)] 31 (0, 0))) ∧ Aside0 (w'.heap[gb139]? = some (.cells #[.int .i64 0, .int .i64 0, .int .i64 0, .int .i64 0, .int .i64 0, .int .i64 0, .int .i64 0] 41 (0, 0))) ∧ Aside0 (Below w.heap.size w w'))
      case atStart => exact ⟨(x10_5), (0), (by first | rfl | (simp; done) | (simp [*]; done)), H', ⟨Nat.le_refl _⟩, ⟨by (with_reducible repeat (first | apply Kd.R_alloc | apply Kd.R_drewN | apply Kd.R_drew)); exact HO_8.out⟩, ⟨by (with_reducible repeat (first | apply Kd.R_alloc | apply Kd.R_drewN | apply Kd.R_drew)); exact HO_10.out⟩, ⟨Sq.kb BK138⟩, ⟨Sq.kb BK139⟩, ⟨Sq.kl2 HB GE138 GE139⟩⟩
      clear H'
      try clear c1
      try clear p1
      try clear q1
      try clear hx1
      try clear c2
      try clear p2
      try clear c3
      try clear c4
      try clear c5
      try clear c6
      try clear p6
      try clear c7
      try clear c12
      try clear c12b0
      try clear c13
      try clear c13b0
      try clear p14
      try clear q14
      try clear hx14
      try clear c15
      try clear p15
      try clear q15
      try clear hx15
      try clear p16
      try clear q16
      try clear hx16
      try clear p17
      try clear q17
      try clear hx17
      try clear c18
      try clear p18
      try clear q18
      try clear hx18
      try clear c19
      try clear c21
      try clear c21b0
      try clear c22
      try clear c22b0
      try clear c23
      try clear c24
      try clear c27
      try clear c29
      try clear c29b0
      try clear c30
      try clear c30b0
      try clear c33
      try clear c33b0
      try clear c34
      try clear c35
      try clear c44
      try clear c45
      try clear c49
      try clear c49b0
      try clear c50
      try clear c50b0
      try clear c53
      try clear c60
      try clear c62
      try clear c62b0
      try clear c63
      try clear c63b0
      try clear p64
      try clear c65
      try clear c69
      try clear hcz16_0
      try clear hcz16_1
      try clear hcz16_2
      try clear hcz16_3
      try clear hcz16_4
      try clear hcz20_0
      try clear hcz20_1
      try clear hcz20_2
      try clear hcz20_3
      try clear hcz20_4
      try clear hcz25_0
      try clear hcz25_1
      try clear hcz25_2
      try clear hcz25_3
      try clear hcz25_4
      try clear hcz28_0
      try clear hcz28_1
      try clear hcz28_2
      try clear hcz28_3
      try clear hcz28_4
      try clear hcz36_0
      try clear hcz36_1
      try clear hcz36_2
      try clear hcz36_3
      try clear hcz36_4
      try clear hcz39_0
      try clear hcz39_1
      try clear hcz39_2
      try clear hcz39_3
      try clear hcz39_4
      try clear hcz46_0
      try clear hcz46_1
      try clear hcz46_2
      try clear hcz46_3
      try clear hcz46_4
      try clear hcz54_0
      try clear hcz54_1
      try clear hcz54_2
      try clear hcz54_3
      try clear hcz54_4
      try clear hcz57_0
      try clear hcz57_1
      try clear hcz57_2
      try clear hcz57_3
      try clear hcz57_4
      try clear hcz61_0
      try clear hcz61_1
      try clear hcz61_2
      try clear hcz61_3
      try clear hcz61_4
      try clear hcz66_0
      try clear hcz66_1
      try clear hcz66_2
      try clear hcz66_3
      try clear hcz66_4
      try clear hcz70_0
      try clear hcz70_1
      try clear hcz70_2
      try clear hcz70_3
      try clear hcz70_4
      try clear hcz8_0
      try clear hcz8_1
      try clear hcz8_2
      try clear hcz8_3
      try clear hcz8_4
      try clear hfz16_0
      try clear hfz16_1
      try clear hfz16_2
      try clear hfz16_3
      try clear hfz16_4
      try clear hfz20_0
      try clear hfz20_1
      try clear hfz20_2
      try clear hfz20_3
      try clear hfz20_4
      try clear hfz25_0
      try clear hfz25_1
      try clear hfz25_2
      try clear hfz25_3
      try clear hfz25_4
      try clear hfz28_0
      try clear hfz28_1
      try clear hfz28_2
      try clear hfz28_3
      try clear hfz28_4
      try clear hfz36_0
      try clear hfz36_1
      try clear hfz36_2
      try clear hfz36_3
      try clear hfz36_4
      try clear hfz39_0
      try clear hfz39_1
      try clear hfz39_2
      try clear hfz39_3
      try clear hfz39_4
      try clear hfz46_0
      try clear hfz46_1
      try clear hfz46_2
      try clear hfz46_3
      try clear hfz46_4
      try clear hfz54_0
      try clear hfz54_1
      try clear hfz54_2
      try clear hfz54_3
      try clear hfz54_4
      try clear hfz57_0
      try clear hfz57_1
      try clear hfz57_2
      try clear hfz57_3
      try clear hfz57_4
      try clear hfz61_0
      try clear hfz61_1
      try clear hfz61_2
      try clear hfz61_3
      try clear hfz61_4
      try clear hfz66_0
      try clear hfz66_1
      try clear hfz66_2
      try clear hfz66_3
      try clear hfz66_4
      try clear hfz70_0
      try clear hfz70_1
      try clear hfz70_2
      try clear hfz70_3
      try clear hfz70_4
      try clear hfz8_0
      try clear hfz8_1
      try clear hfz8_2
      try clear hfz8_3
      try clear hfz8_4
      try clear hx149_0
      try clear hx149_1
      try clear hx153_0
      try clear hx153_1
      try clear hx157_0
      try clear hx157_1
      try clear hx157_2
      try clear hx161_0
      try clear hx161_1
      try clear hx161_2
      try clear hx165_0
      try clear hx172_0
      try clear hx172_1
      try clear hx176_0
      try clear hx176_1
      try clear hx180_0
      try clear p1
      try clear p14
      try clear p149
      try clear p15
      try clear p153
      try clear p157
      try clear p16
      try clear p161
      try clear p165
      try clear p17
      try clear p172
      try clear p176
      try clear p180
      try clear p2
      try clear p6
      try clear q1
      try clear q14
      try clear q149
      try clear q15
      try clear q153
      try clear q157
      try clear q16
      try clear q161
      try clear q165
      try clear q17
      try clear q172
      try clear q176
      try clear q180
      obtain ⟨x10_6, x16_6, rfl, HA, HK6, HO_8, HO_10, BK138, BK139, HB⟩ := hrel
      cases gk with
      | zero => exact absurd HA.out (by simp [longcaseref06_Encode.l5])
      | succ k6 =>
       have H := HA.out
       clear HA
       simp only [longcaseref06_Encode.l5] at H
       by_cases c71 : x16_6 < (l0_4.length : Int)
       ·
        rw [if_pos c71] at H
        have c71b0 : decide (x16_6 < (l0_4.length : Int)) = true := decide_eq_true c71
        clear c71
        by_cases c72 : 0 ≤ x16_6
        rotate_left
        ·
         rw [if_neg c72] at H
         exact absurd H (by simp)
        rw [if_pos c72] at H
        have c72b0 : decide (0 ≤ x16_6) = true := decide_eq_true c72
        clear c72
        replace H := Option.bind_eq_some_iff.mp H
        obtain ⟨t185, A730, H⟩ := H
        replace H : (longcaseref06_Encode.l5 k6 a2 t140 t185 (wrap64 (x16_6 + 1)) l0_0 l0_1 l0_2 l0_3 l0_4) = some (r1, r2, r3, r4, r5, r6, r7, r8) := H
        have A73 := Aside0.mk A730
        clear A730
        have H' := Aside0.mk H
        clear H
        have hnb74 := NB138_139.out
        have hnc74 := NB139_138.out
        obtain ⟨hcz75_0, hcz75_1, hcz75_2, hcz75_3, hcz75_4⟩ := Sq.c5 BK138
        obtain ⟨hfz75_0, hfz75_1, hfz75_2, hfz75_3, hfz75_4⟩ := Sq.z5 BK138
        have p184 : 0 ≤ (x16_6 : Int) := of_decide_eq_true (by first | (with_reducible assumption) | assumption)
        have q184 : x16_6 < (l0_4.length : Int) := of_decide_eq_true (by first | (with_reducible assumption) | assumption)
        obtain ⟨ad184, e184, hx184_0⟩ := Kd.at_bool HR0_4.out x16_6 p184 q184
        cases e184
        replace hx184_0 := (HB.out.cell (World.block_lt_of_cell? w _ hx184_0)).trans hx184_0
        replace p184 := eq_true p184
        replace q184 := eq_true q184
        obtain ⟨Ao76, co76, eo76⟩ := Kd.R_slice HO_10.out
        subst eo76
        go_wp2_with (first | ((with_reducible refine gate_callee (f := 35) rfl ?_); refine goesL_ (some 146) rfl rfl Try.func35 (by kernel_rfl) rfl #[.slice Ao76 x10_6.length co76, .bool (rdOf false l0_4 x16_6)] rfl (by (try simp only [List.map_toArray, List.map_cons, List.map_nil]); first | done | rfl | (simp only [List.length_drop, List.length_take]; rfl)) ?_; (with_reducible refine (longcaseref06_truth.calls (fun k_ => some k_ = (.slice Ao76 x10_6.length co76 : Value).ownBlock) (.slice Ao76 x10_6.length co76) x10_6 (rdOf false l0_4 x16_6) t185 w _ ?side1 ?side2 A73.out).mono ?_); (case side1 => repeat (first | (with_reducible first | exact HB.out | apply below_alloc | apply pw_below_drewN | apply below_drew1 | refine below_set ?_ GE138.out | refine below_set ?_ GE139.out) | exact HB.out)); (case side2 => exact Kd.R_tight rfl HO_10.out); rintro e w77 ⟨v186, rfl, ho0, hb, hkp⟩; refine ⟨_, rfl, ?_⟩; replace BK138 := Aside0.mk (blk_kept (kb BK138) hkp (fun hs_ => (fun e_ => (Kd.R_ne HO_10.out BK138.out (by decide)) e_) hs_)); replace BK139 := Aside0.mk (blk_kept (kb BK139) hkp (fun hs_ => (fun e_ => (Kd.R_ne HO_10.out BK139.out (by decide)) e_) hs_)); have HO187 := Aside0.mk (Kd.R_mono (ok' := fun k_ => some k_ ≠ (.slice Ao48 t140.length co48 : Value).ownBlock) ho0 (fun k_ hk_ => Or.elim hk_ (fun hs_ => fun e_ => (((HO_8.out).1 k_ e_.symm)) hs_) (fun hn_ => (Kd.fresh' (Kd.R_lt (kr HO_8)) k_ hn_)))); replace HO_8 := Aside0.mk (Kd.R_mono (ok' := fun k_ => some k_ ≠ (v186 : Value).ownBlock) (Kd.R_keptB (HO_8.out) hkp (fun k_ hk_ hs_ => (hk_) hs_)) (fun k_ hk_ => fun e_ => Or.elim (ho0.1 k_ e_.symm) (fun hs_ => hk_.2.1 hs_) (fun hn_ => Nat.not_le.2 hk_.2.2 hn_))); replace HB := Aside0.mk (hb); clear HO_10; (try clear hb); (try clear hkp); (try clear ho0)))
        go_roundg k6
        case measure => have := HK1.out; have := HK2.out; have := HK3.out; have := HK4.out; have := HK5.out; have := HK6.out; omega
        case rel => exact ⟨(t185), (wrap64 (x16_6 + 1)), (by first | rfl | (simp; done) | (simp [*]; done)), H', ⟨by have := HK1.out; have := HK2.out; have := HK3.out; have := HK4.out; have := HK5.out; have := HK6.out; omega⟩, ⟨by (with_reducible repeat (first | apply Kd.R_alloc | apply Kd.R_drewN | apply Kd.R_drew)); exact HO_8.out⟩, ⟨by (with_reducible repeat (first | apply Kd.R_alloc | apply Kd.R_drewN | apply Kd.R_drew)); exact HO187.out⟩, ⟨Sq.kb BK138⟩, ⟨Sq.kb BK139⟩, ⟨Sq.kl2 HB GE138 GE139⟩⟩
       rw [if_neg c71] at H
       have c71b0 : decide (x16_6 < (l0_4.length : Int)) = false := decide_eq_false c71
       clear c71
       simp only [Option.some.injEq, Prod.mk.injEq] at H
       obtain ⟨rfl, rfl, rfl, rfl, rfl, rfl, rfl, rfl⟩ := H
       have hnb78 := NB138_139.out
       have hnc78 := NB139_138.out
       obtain ⟨hcz79_0, hcz79_1, hcz79_2, hcz79_3, hcz79_4⟩ := Sq.c5 BK138
       obtain ⟨hfz79_0, hfz79_1, hfz79_2, hfz79_3, hfz79_4⟩ := Sq.z5 BK138
       try go_wp2
       replace HO_8 := Aside0.mk (Kd.R_drew HO_8.out)
       replace HO_10 := Aside0.mk (Kd.R_drew HO_10.out)
       replace BK138 := Aside0.mk (blk_drew BK138.out)
       replace BK139 := Aside0.mk (blk_drew BK139.out)
       replace HB := Aside0.mk (below_drew1 HB.out)
       refine start_ (n := 22) (S := fun w' => w'.cell? ⟨gb138, 0, none⟩ = some (.slice A0_0 l0_0.length c0_0) ∧ w'.cell? ⟨gb138, 1, none⟩ = some (.slice A0_1 l0_1.length c0_1) ∧ w'.cell? ⟨gb138, 2, none⟩ = some (.slice A0_2 l0_2.length c0_2) ∧ w'.cell? ⟨gb138, 3, none⟩ = some (.slice A0_3 l0_3.length c0_3) ∧ w'.cell? ⟨gb138, 4, none⟩ = some (.slice A0_4 l0_4.length c0_4)) (ds := []) (Sq.bm 22 0) (by kernel_rfl) rfl (by kernel_rfl) ⟨(blk_cell BK138.out 0).trans rfl, (blk_cell BK138.out 1).trans rfl, (blk_cell BK138.out 2).trans rfl, (blk_cell BK138.out 3).trans rfl, (blk_cell BK138.out 4).trans rfl⟩ (fun hHeld => ?_); refine with_tabW longcaseref06_Encode.tab31 longcaseref06_Encode.bits31 (fun HT_ HW_ => ?_)
       generalize wr.drew = w80 at HO_8 HO_10 BK138 BK139 HB hHeld ⊢
       refine Sq.pv 0 147 1 HT_ ?_
       refine Sq.pv 1 148 3 HT_ ?_
       refine Sq.pv 2 149 7 HT_ ?_
       refine Sq.pv 5 152 39 HT_ ?_
       refine Sq.pv 8 155 295 HT_ ?_
       refine Sq.pv 11 158 2343 HT_ ?_
       refine Sq.pv 14 161 18727 HT_ ?_
       refine Sq.pv 17 164 149799 HT_ ?_
       refine Sq.pv 18 165 411943 HT_ ?_
       refine Sq.pv 20 6 1460519 HT_ ?_
       refine Sq.tv 3 150 1460527 HT_ HW_ hHeld ?_
       refine Sq.pv 4 151 1460543 HT_ ?_
       refine Sq.tv 6 153 1460607 HT_ HW_ hHeld ?_
       refine Sq.pv 7 154 1460735 HT_ ?_
       refine Sq.tv 9 156 1461247 HT_ HW_ hHeld ?_
       refine Sq.pv 10 157 1462271 HT_ ?_
       refine Sq.tv 12 159 1466367 HT_ HW_ hHeld ?_
       refine Sq.pv 13 160 1474559 HT_ ?_
       refine Sq.tv 15 162 1507327 HT_ HW_ hHeld ?_
       refine Sq.pv 16 163 1572863 HT_ ?_
       refine Sq.pv 19 166 2097151 HT_ ?_
       refine one_ (i := 21) (N := none) (bm 22 4194303) rfl rfl (one_of HT_.out (by kernel_rfl)) (by decide) (fun K hK => ?_)
       have hs81 := kc BK139 0 rfl
       have hfs81 := blk_frozen BK139.out 0
       have hns81_0 := NB138_139.out
       have hms81_0 := NB139_138.out
       have hs82 := kc BK139 1 rfl
       have hfs82 := blk_frozen BK139.out 1
       have hns82_0 := NB138_139.out
       have hms82_0 := NB139_138.out
       have hs83 := kc BK139 2 rfl
       have hfs83 := blk_frozen BK139.out 2
       have hns83_0 := NB138_139.out
       have hms83_0 := NB139_138.out
       have hs84 := kc BK139 3 rfl
       have hfs84 := blk_frozen BK139.out 3
       have hns84_0 := NB138_139.out
       have hms84_0 := NB139_138.out
       have hs85 := kc BK139 4 rfl
       have hfs85 := blk_frozen BK139.out 4
       have hns85_0 := NB138_139.out
       have hms85_0 := NB139_138.out
       have hs86 := kc BK139 5 rfl
       have hfs86 := blk_frozen BK139.out 5
       have hns86_0 := NB138_139.out
       have hms86_0 := NB139_138.out
       have hs87 := kc BK139 6 rfl
       have hfs87 := blk_frozen BK139.out 6
       have hns87_0 := NB138_139.out
       have hms87_0 := NB139_138.out
       refine skip_ (w1 := ?_) (by rfl) rfl ?_ ?_
       rotate_left
       ·
        go_simp
        rfl
       refine hK.out _ _ ⟨(Sq.cf7 NB138_139 hHeld.1), (Sq.cf7 NB138_139 hHeld.2.1), (Sq.cf7 NB138_139 hHeld.2.2.1), (Sq.cf7 NB138_139 hHeld.2.2.2.1), (Sq.cf7 NB138_139 hHeld.2.2.2.2)⟩ (fun hHeld => ?_)
       clear hK K
       refine done_ (done_of HT_.out (by kernel_rfl)) ?_
       try go_wp2
       refine bodyPost_ret (results_tc rfl _ _ gb139 41 #[.int .i64 a2, .int .i64 (l0_4.length : Int), .int .i64 (l0_3.length : Int), .int .i64 (l0_2.length : Int), .int .i64 (l0_1.length : Int), .int .i64 (l0_0.length : Int), .int .i64 (t140.length : Int)] (0, 0) _ rfl (by (with_reducible repeat (first | refine blk_drewN ?_ _ | refine blk_drew ?_ | refine blk_alloc ?_ _)); refine blk_put (cs := #[.int .i64 a2, .int .i64 (l0_4.length : Int), .int .i64 (l0_3.length : Int), .int .i64 (l0_2.length : Int), .int .i64 (l0_1.length : Int), .int .i64 (l0_0.length : Int), .int .i64 0]) ?_ 6 _ rfl; (with_reducible repeat (first | refine blk_drewN ?_ _ | refine blk_drew ?_ | refine blk_alloc ?_ _)); refine blk_put (cs := #[.int .i64 a2, .int .i64 (l0_4.length : Int), .int .i64 (l0_3.length : Int), .int .i64 (l0_2.length : Int), .int .i64 (l0_1.length : Int), .int .i64 0, .int .i64 0]) ?_ 5 _ rfl; (with_reducible repeat (first | refine blk_drewN ?_ _ | refine blk_drew ?_ | refine blk_alloc ?_ _)); refine blk_put (cs := #[.int .i64 a2, .int .i64 (l0_4.length : Int), .int .i64 (l0_3.length : Int), .int .i64 (l0_2.length : Int), .int .i64 0, .int .i64 0, .int .i64 0]) ?_ 4 _ rfl; (with_reducible repeat (first | refine blk_drewN ?_ _ | refine blk_drew ?_ | refine blk_alloc ?_ _)); refine blk_put (cs := #[.int .i64 a2, .int .i64 (l0_4.length : Int), .int .i64 (l0_3.length : Int), .int .i64 0, .int .i64 0, .int .i64 0, .int .i64 0]) ?_ 3 _ rfl; (with_reducible repeat (first | refine blk_drewN ?_ _ | refine blk_drew ?_ | refine blk_alloc ?_ _)); refine blk_put (cs := #[.int .i64 a2, .int .i64 (l0_4.length : Int), .int .i64 0, .int .i64 0, .int .i64 0, .int .i64 0, .int .i64 0]) ?_ 2 _ rfl; (with_reducible repeat (first | refine blk_drewN ?_ _ | refine blk_drew ?_ | refine blk_alloc ?_ _)); refine blk_put (cs := #[.int .i64 a2, .int .i64 0, .int .i64 0, .int .i64 0, .int .i64 0, .int .i64 0, .int .i64 0]) ?_ 1 _ rfl; (with_reducible repeat (first | refine blk_drewN ?_ _ | refine blk_drew ?_ | refine blk_alloc ?_ _)); refine blk_put (cs := #[.int .i64 0, .int .i64 0, .int .i64 0, .int .i64 0, .int .i64 0, .int .i64 0, .int .i64 0]) ?_ 0 _ rfl; exact Sq.kb BK139) Try.underlying41 rfl (by kernel_rfl)) rfl ?_
       exact ⟨_, by first | rfl | (simp [errW_none, errW_some] <;> rfl) | (simp [*, errW_none, errW_some] <;> rfl), by (with_reducible repeat (first | apply Kd.R_alloc | apply Kd.R_drewN | apply Kd.R_drew)); exact Kd.R_mono (Sq.rf7 HO_10 BK139) (fun _ hk => trivial), by repeat (first | (with_reducible first | exact HB.out | apply below_alloc | apply pw_below_drewN | apply below_drew1 | refine below_set ?_ GE138.out | refine below_set ?_ GE139.out) | exact HB.out)⟩
end Go.Proofs.Ythobnoknbdljgaa.PR
end
section
namespace Go.Proofs.Ythobnoknbdljgaa
open Go.RowKit Hand PB0 Go.Proofs.YthobnoknbdljgaaW.PrintWords PR
theorem rput_l (n : Int) (m : Nat) : ∀ (k : Nat) (xs : List Int), m ≤ 8 → m < k → xs.length + m < 140737488355328 → longcaseref04_Put.l0 k n xs (m : Int) = some (xs ++ be m n) := by
 induction m with
 | zero =>
  intro k xs _ hk _
  obtain ⟨k, rfl⟩ : ∃ j, k = j + 1 := ⟨k - 1, by omega⟩
  simp only [longcaseref04_Put.l0]
  rw [if_neg (by omega)]
  simp [be]
 | succ m ih =>
  intro k xs hm hk hl
  obtain ⟨k, rfl⟩ : ∃ j, k = j + 1 := ⟨k - 1, by omega⟩
  have e : wrap64 (wrap64 (8 * ((m + 1 : Nat) : Int)) - 8) = 8 * (m : Int) := by
   rw [Oct.w64 (n := 8 * ((m + 1 : Nat) : Int)) (by omega) (by omega), Oct.w64 (by omega) (by omega)]
   omega
  have e2 : IntKind.u64.wrap (8 * (m : Int)) = 8 * (m : Int) := by
   rw [IntKind.wrap_u64]
   omega
  have e3 : wrap64 (((m + 1 : Nat) : Int) - 1) = (m : Int) := by rw [Oct.w64 (by omega) (by omega)]; omega
  simp only [longcaseref04_Put.l0]
  rw [if_pos (by omega), e, e2, if_pos (by omega), if_pos (by omega), e3, Oct.shr_pow n m (by omega), ih k _ (by omega) (by omega) (by simp; omega)]
  simp [be]
theorem rput_f (k : Nat) (hk : 10 ≤ k) (xs : List Int) (hl : xs.length < 140737488350000) (m : Nat) (hm : m ≤ 8) (n : Int) : longcaseref04_Put.f k xs m n = some (xs ++ be m n) := by
 unfold longcaseref04_Put.f
 rw [Option.bind_some, if_pos (by simp; omega), List.nil_append]
 have e : mn (m : Int) 8 = (m : Int) := by unfold mn; split <;> omega
 rw [e, rput_l n m k xs hm (by omega) (by omega)]
theorem rtruth_f (xs : List Int) (hl : xs.length < 140737488350000) (b : Bool) : longcaseref06_truth.f xs b = some (xs ++ [b1 b]) := by
 unfold longcaseref06_truth.f b1
 cases b
 ·
  rw [if_neg (by decide), if_pos (by omega), if_neg (by decide)]
 ·
  rw [if_pos rfl, if_pos (by omega), if_pos rfl]
section
variable (m : Nat) (hm : m ≤ 8) (v : Int) (nb P : List Int) (K : List S56) (J : List S54) (L : List S67) (S U : List Bool)
def encH : Int × Int × Int × Int × Int × Int × Int := (v, (U.length : Int), (S.length : Int), (L.length : Int), (J.length : Int), (K.length : Int), (nb.length : Int))
theorem w1 (i : Nat) (h : i < 1000000000) : wrap64 ((i : Int) + 1) = ((i + 1 : Nat) : Int) := by rw [Oct.w64 (by omega) (by omega)]; omega
theorem rd_b (l : List Bool) (i : Nat) (h : i < l.length) : rdOf false l (i : Int) = l[i] := by unfold rdOf; simp [h]
theorem rdJ (i : Nat) (h : i < J.length) : rd_T54 J (i : Int) = J[i] := by unfold rd_T54; simp [h]
theorem rdL (i : Nat) (h : i < L.length) : rd_T67 L (i : Int) = L[i] := by unfold rd_T67; simp [h]
theorem rdP (i : Nat) (h : i < P.length) : rd P (i : Int) = P[i] := by unfold rd; simp [h]
theorem re_l5 (d : Nat) : ∀ (k i : Nat) (xs : List Int), i + d = U.length → d < k → xs.length + d ≤ 100000000 → U.length ≤ 1000000 →
  longcaseref06_Encode.l5 k v nb xs i K J L S U = some (xs ++ tr (U.drop i), encH v nb K J L S U) := by
 induction d with
 | zero =>
  intro k i xs hi hk _ _
  obtain ⟨k, rfl⟩ : ∃ j, k = j + 1 := ⟨k - 1, by omega⟩
  rw [longcaseref06_Encode.l5, if_neg (by omega), List.drop_of_length_le (by omega)]
  simp [tr, encH]
 | succ d ih =>
  intro k i xs hi hk hl hU
  obtain ⟨k, rfl⟩ : ∃ j, k = j + 1 := ⟨k - 1, by omega⟩
  rw [longcaseref06_Encode.l5, if_pos (by omega), if_pos (by omega), rd_b U i (by omega), rtruth_f _ (by omega), Option.bind_some, w1 i (by omega), ih k (i + 1) _ (by omega) (by omega) (by simp; omega) hU, List.drop_eq_getElem_cons (show i < U.length by omega)]
  simp only [tr, List.map_cons, List.append_assoc, List.cons_append, List.nil_append]
theorem re_l4 (d : Nat) : ∀ (k i : Nat) (xs : List Int), i + d = S.length → d + U.length + 1 < k → xs.length + d + U.length ≤ 100000000 → S.length ≤ 1000000 → U.length ≤ 1000000 →
  longcaseref06_Encode.l4 k v nb xs i K J L S U = some (xs ++ tr (S.drop i) ++ tr U, encH v nb K J L S U) := by
 induction d with
 | zero =>
  intro k i xs hi hk hl hS hU
  obtain ⟨k, rfl⟩ : ∃ j, k = j + 1 := ⟨k - 1, by omega⟩
  have h := re_l5 v nb K J L S U U.length k 0 xs (by omega) (by omega) (by omega) hU
  rw [longcaseref06_Encode.l4, if_neg (by omega), List.drop_of_length_le (by omega)]
  simp only [tr, List.map_nil, List.append_nil, List.drop_zero, Int.natCast_zero] at h ⊢
  exact h
 | succ d ih =>
  intro k i xs hi hk hl hS hU
  obtain ⟨k, rfl⟩ : ∃ j, k = j + 1 := ⟨k - 1, by omega⟩
  rw [longcaseref06_Encode.l4, if_pos (by omega), if_pos (by omega), rd_b S i (by omega), rtruth_f _ (by omega), Option.bind_some, w1 i (by omega), ih k (i + 1) _ (by omega) (by omega) (by simp; omega) hS hU, List.drop_eq_getElem_cons (show i < S.length by omega)]
  simp only [tr, List.map_cons, List.append_assoc, List.cons_append, List.nil_append]
include hm in
theorem re_l3 (d : Nat) : ∀ (k i : Nat) (xs : List Int), i + d = L.length → d + S.length + U.length + 20 < k → xs.length + 12 * d + S.length + U.length ≤ 100000000 → L.length ≤ 1000000 → S.length ≤ 1000000 → U.length ≤ 1000000 →
  longcaseref06_Encode.l3 k m v nb xs i K J L S U = some (xs ++ (L.drop i).flatMap (lA m) ++ tr S ++ tr U, encH v nb K J L S U) := by
 induction d with
 | zero =>
  intro k i xs hi hk hl hL hS hU
  obtain ⟨k, rfl⟩ : ∃ j, k = j + 1 := ⟨k - 1, by omega⟩
  have h := re_l4 v nb K J L S U S.length k 0 xs (by omega) (by omega) (by omega) hS hU
  rw [longcaseref06_Encode.l3, if_neg (by omega), List.drop_of_length_le (by omega)]
  simp only [List.flatMap_nil, List.append_nil, List.drop_zero, Int.natCast_zero] at h ⊢
  exact h
 | succ d ih =>
  intro k i xs hi hk hl hL hS hU
  obtain ⟨k, rfl⟩ : ∃ j, k = j + 1 := ⟨k - 1, by omega⟩
  rw [longcaseref06_Encode.l3, if_pos (by omega), if_pos (by omega), rdL L i (by omega), rput_f k (by omega) xs (by omega) m hm, Option.bind_some]
  have h4 := rput_f k (by omega) (xs ++ be m (IntKind.u64.wrap L[i].f0)) (by rw [List.length_append, be_len]; omega) 4 (by omega) (IntKind.u64.wrap L[i].f1)
  simp only [Int.cast_ofNat_Int] at h4
  rw [h4, Option.bind_some, w1 i (by omega), ih k (i + 1) _ (by omega) (by omega) (by simp only [List.length_append, be_len]; omega) hL hS hU, List.drop_eq_getElem_cons (show i < L.length by omega), List.flatMap_cons]
  simp [lA, u64w]
def kR (x : S56 × Int) : List Int := be 4 (u64w x.1.f0) ++ [b1 x.1.f1] ++ [x.2 % 256]
include hm in
theorem re_l2 (hP : P.length = K.length) (d : Nat) : ∀ (k i : Nat) (xs : List Int), i + d = K.length → d + L.length + S.length + U.length + 25 < k → xs.length + 6 * d + nb.length + 12 * L.length + S.length + U.length ≤ 100000000 → K.length ≤ 1000000 → L.length ≤ 1000000 → S.length ≤ 1000000 → U.length ≤ 1000000 →
  longcaseref06_Encode.l2 k m v nb P xs i K J L S U = some (xs ++ ((K.zip P).drop i).flatMap kR ++ nb ++ L.flatMap (lA m) ++ tr S ++ tr U, encH v nb K J L S U) := by
 induction d with
 | zero =>
  intro k i xs hi hk hl hK hL hS hU
  obtain ⟨k, rfl⟩ : ∃ j, k = j + 1 := ⟨k - 1, by omega⟩
  have h := re_l3 m hm v nb K J L S U L.length k 0 (xs ++ nb) (by omega) (by omega) (by rw [List.length_append]; omega) hL hS hU
  rw [longcaseref06_Encode.l2, if_neg (by omega), if_pos (by omega), List.drop_of_length_le (by rw [List.length_zip]; omega)]
  simp only [List.flatMap_nil, List.append_nil, List.drop_zero, Int.natCast_zero] at h ⊢
  exact h
 | succ d ih =>
  intro k i xs hi hk hl hK hL hS hU
  obtain ⟨k, rfl⟩ : ∃ j, k = j + 1 := ⟨k - 1, by omega⟩
  have h4 := rput_f k (by omega) xs (by omega) 4 (by omega) (IntKind.u64.wrap K[i].f0)
  simp only [Int.cast_ofNat_Int] at h4
  rw [longcaseref06_Encode.l2, if_pos (by omega), if_pos (by omega), rdK i (by omega), h4, Option.bind_some, rtruth_f _ (by rw [List.length_append, be_len]; omega), Option.bind_some, if_pos (by omega), if_pos (by simp only [List.length_append, be_len, List.length_singleton]; omega), rdP P i (by omega), w1 i (by omega),
   ih k (i + 1) _ (by omega) (by omega) (by simp only [List.length_append, be_len, List.length_singleton]; omega) hK hL hS hU, List.drop_eq_getElem_cons (show i < (K.zip P).length by rw [List.length_zip]; omega), List.flatMap_cons, List.getElem_zip]
  simp only [kR, u64w, List.append_assoc]
include hm in
theorem re_l1 (hP : P.length = K.length) (d : Nat) : ∀ (k i : Nat) (xs : List Int), i + d = J.length → d + K.length + L.length + S.length + U.length + 30 < k → xs.length + d + 6 * K.length + nb.length + 12 * L.length + S.length + U.length ≤ 100000000 → J.length ≤ 1000000 → K.length ≤ 1000000 → L.length ≤ 1000000 → S.length ≤ 1000000 → U.length ≤ 1000000 →
  longcaseref06_Encode.l1 k m v nb P xs i K J L S U = some (xs ++ (J.drop i).flatMap jB ++ (K.zip P).flatMap kR ++ nb ++ L.flatMap (lA m) ++ tr S ++ tr U, encH v nb K J L S U) := by
 induction d with
 | zero =>
  intro k i xs hi hk hl hJ hK hL hS hU
  obtain ⟨k, rfl⟩ : ∃ j, k = j + 1 := ⟨k - 1, by omega⟩
  have h := re_l2 m hm v nb P K J L S U hP K.length k 0 xs (by omega) (by omega) (by omega) hK hL hS hU
  rw [longcaseref06_Encode.l1, if_neg (by omega), List.drop_of_length_le (by omega)]
  simp only [List.flatMap_nil, List.append_nil, List.drop_zero, Int.natCast_zero] at h ⊢
  exact h
 | succ d ih =>
  intro k i xs hi hk hl hJ hK hL hS hU
  obtain ⟨k, rfl⟩ : ∃ j, k = j + 1 := ⟨k - 1, by omega⟩
  rw [longcaseref06_Encode.l1, if_pos (by omega), if_pos (by omega), if_pos (by omega), rdJ J i (by omega), w1 i (by omega), ih k (i + 1) _ (by omega) (by omega) (by simp only [List.length_append, List.length_singleton]; omega) hJ hK hL hS hU, List.drop_eq_getElem_cons (show i < J.length by omega), List.flatMap_cons]
  simp only [jB, List.append_assoc]
include hm in
theorem re_l0 (hP : P.length = K.length) (d : Nat) : ∀ (k i : Nat) (xs : List Int), i + d = J.length → d + J.length + K.length + L.length + S.length + U.length + 35 < k → xs.length + 8 * d + J.length + 6 * K.length + nb.length + 12 * L.length + S.length + U.length ≤ 100000000 → J.length ≤ 1000000 → K.length ≤ 1000000 → L.length ≤ 1000000 → S.length ≤ 1000000 → U.length ≤ 1000000 →
  longcaseref06_Encode.l0 k m v nb P xs i K J L S U = some (xs ++ (J.drop i).flatMap (jA m) ++ J.flatMap jB ++ (K.zip P).flatMap kR ++ nb ++ L.flatMap (lA m) ++ tr S ++ tr U, encH v nb K J L S U) := by
 induction d with
 | zero =>
  intro k i xs hi hk hl hJ hK hL hS hU
  obtain ⟨k, rfl⟩ : ∃ j, k = j + 1 := ⟨k - 1, by omega⟩
  have h := re_l1 m hm v nb P K J L S U hP J.length k 0 xs (by omega) (by omega) (by omega) hJ hK hL hS hU
  rw [longcaseref06_Encode.l0, if_neg (by omega), List.drop_of_length_le (by omega)]
  simp only [List.flatMap_nil, List.append_nil, List.drop_zero, Int.natCast_zero] at h ⊢
  exact h
 | succ d ih =>
  intro k i xs hi hk hl hJ hK hL hS hU
  obtain ⟨k, rfl⟩ : ∃ j, k = j + 1 := ⟨k - 1, by omega⟩
  rw [longcaseref06_Encode.l0, if_pos (by omega), if_pos (by omega), rdJ J i (by omega), rput_f k (by omega) xs (by omega) m hm, Option.bind_some, w1 i (by omega), ih k (i + 1) _ (by omega) (by omega) (by simp only [List.length_append, be_len]; omega) hJ hK hL hS hU, List.drop_eq_getElem_cons (show i < J.length by omega), List.flatMap_cons]
  simp only [jA, u64w, List.append_assoc]
end
end Go.Proofs.Ythobnoknbdljgaa
end
section
namespace Go.Proofs.Ythobnoknbdljgaa
open Go.RowKit Hand PB0 Go.Proofs.YthobnoknbdljgaaW.PrintWords PR
theorem leO_le {α : Type} {f : Nat → Option α} (hm : ∀ k, LeO (f k) (f (k + 1))) {r : α} {k : Nat} (h : f k = some r) (d : Nat) : f (k + d) = some r := by
 induction d with
 | zero => exact h
 | succ d ih => exact hm _ _ ih
theorem zip_kR (K : List S56) : (K.zip ((names K).map (place (names K)))).flatMap kR = (K.zip (nmSt (names K)).2.2).flatMap kA := by
 have hl : (names K).length = K.length := List.length_map _
 have inv := nm_inv (names K)
 have key : (K.zip ((names K).map (place (names K)))).map kR = (K.zip (nmSt (names K)).2.2).map kA := by
  refine List.ext_getElem (by simp [hl, inv.len]) fun i h1 h2 => ?_
  simp only [List.length_map, List.length_zip, hl, inv.len] at h1 h2
  have hi : i < K.length := by omega
  obtain ⟨p, hp1, hp2⟩ := inv.at_ i (by omega)
  have h3 : ((nmSt (names K)).2.2)[i]'(by rw [inv.len]; omega) = (p : Int) % 256 := by
   rw [List.getElem?_eq_getElem (by rw [inv.len]; omega)] at hp2
   exact Option.some.inj hp2
  have h4 : place (names K) ((names K)[i]'(by omega)) = (p : Int) := by unfold place; rw [hp1]; rfl
  simp only [List.getElem_map, List.getElem_zip]
  rw [h3, h4]
  rfl
 rw [List.flatMap_def, List.flatMap_def, key]
theorem nbs_eq (K : List S56) : nbs (names K) = bytesOf ⟨(nmSt (names K)).1.toArray⟩ := by
 unfold nbs bytesOf
 simp
theorem refenc_f (m : Nat) (hm : m ≤ 8) (v : Int) (K : List S56) (J : List S54) (L : List S67) (S U : List Bool) (h : encOK K J L S U) :
  ∃ k, longcaseref06_Encode.f k K J L S U m v = some (encL m K J L S U, v, (U.length : Int), (S.length : Int), (L.length : Int), (J.length : Int), (K.length : Int), ((nmSt (names K)).1.length : Int)) := by
 obtain ⟨q0, q1, q2, q3, q4, q5⟩ := h
 obtain ⟨k0, h0⟩ := names_f q0 q1
 have hn := (nmSt_len (names K)).1
 refine ⟨k0 + (2 * J.length + K.length + L.length + S.length + U.length + 40), ?_⟩
 have h1 := leO_le (f := fun k => longcaseref06_Names.f k K) (longcaseref06_Names.mono K) h0 (2 * J.length + K.length + L.length + S.length + U.length + 40)
 have h2 := re_l0 m hm v (nbs (names K)) ((names K).map (place (names K))) K J L S U (by rw [List.length_map]; exact List.length_map _) J.length (k0 + (2 * J.length + K.length + L.length + S.length + U.length + 40)) 0 [] (by omega) (by omega) (by rw [nbs_len, List.length_nil]; omega) q2 q0 q3 q4 q5
 unfold longcaseref06_Encode.f
 rw [h1, Option.bind_some]
 simp only [Int.natCast_zero, List.drop_zero, List.nil_append] at h2
 rw [zip_kR] at h2
 rw [h2, encH, nbs_len, nbs_eq]
 rfl
end Go.Proofs.Ythobnoknbdljgaa
namespace Go.Proofs.Ythobnoknbdljgaa.Stub2
open Go.RowKit Go.Proofs.YthobnoknbdljgaaW.PrintWords PB0 Hand
def longcaseref06_Encode.f (l0 : List S56) (l1 : List S54) (l2 : List S67) (l3 l4 : List Bool) (a1 a2 : Int) : Option (List Int × Int × Int × Int × Int × Int × Int × Int) :=
 if encOK l0 l1 l2 l3 l4 ∧ 0 ≤ a1 ∧ a1 ≤ 8 then some (encL a1.toNat l0 l1 l2 l3 l4, a2, (l4.length : Int), (l3.length : Int), (l2.length : Int), (l1.length : Int), (l0.length : Int), ((nmSt (names l0)).1.length : Int)) else none
theorem longcaseref06_Encode.calls (A0_0 : Option Addr) (c0_0 : Nat) (l0_0 : List S56) (A0_1 : Option Addr) (c0_1 : Nat) (l0_1 : List S54) (A0_2 : Option Addr) (c0_2 : Nat) (l0_2 : List S67) (A0_3 : Option Addr) (c0_3 : Nat) (l0_3 : List Bool) (A0_4 : Option Addr) (c0_4 : Nat) (l0_4 : List Bool) (a1 a2 : Int) (r1 : List Int) (r2 r3 r4 r5 r6 r7 r8 : Int) (w : World) (hr0_0 : Kd.C k56 w A0_0 l0_0.length l0_0) (hc0_0 : l0_0.length ≤ c0_0) (hr0_1 : Kd.C k54 w A0_1 l0_1.length l0_1) (hc0_1 : l0_1.length ≤ c0_1) (hr0_2 : Kd.C k67 w A0_2 l0_2.length l0_2) (hc0_2 : l0_2.length ≤ c0_2) (hr0_3 : Kd.C Kd.bool w A0_3 l0_3.length l0_3) (hc0_3 : l0_3.length ≤ c0_3) (hr0_4 : Kd.C Kd.bool w A0_4 l0_4.length l0_4) (hc0_4 : l0_4.length ≤ c0_4) (h : longcaseref06_Encode.f l0_0 l0_1 l0_2 l0_3 l0_4 a1 a2 = some (r1, r2, r3, r4, r5, r6, r7, r8)) :
  Calls Try.prog 18 #[.agg #[.slice A0_0 l0_0.length c0_0, .slice A0_1 l0_1.length c0_1, .slice A0_2 l0_2.length c0_2, .slice A0_3 l0_3.length c0_3, .slice A0_4 l0_4.length c0_4], .int .i64 a1, .int .i64 a2] w fun e w' => ∃ v0_ : Value, e = .returned (.tuple #[v0_, .agg #[.int .i64 r2, .int .i64 r3, .int .i64 r4, .int .i64 r5, .int .i64 r6, .int .i64 r7, .int .i64 r8]]) ∧ Kd.R (Kd.int .u8) 5 w' w.heap.size (fun _ => True) v0_ r1 ∧ Below w.heap.size w w' := by
 unfold longcaseref06_Encode.f at h
 split at h
 ·
  rename_i hh
  obtain ⟨m, rfl⟩ : ∃ m : Nat, a1 = m := ⟨a1.toNat, by omega⟩
  obtain ⟨k, hk⟩ := refenc_f m (by omega) a2 _ _ _ _ _ hh.1
  refine PR.longcaseref06_Encode.calls k A0_0 c0_0 l0_0 A0_1 c0_1 l0_1 A0_2 c0_2 l0_2 A0_3 c0_3 l0_3 A0_4 c0_4 l0_4 m a2 r1 r2 r3 r4 r5 r6 r7 r8 w hr0_0 hc0_0 hr0_1 hc0_1 hr0_2 hc0_2 hr0_3 hc0_3 hr0_4 hc0_4 ?_
  rw [hk, ← h, Int.toNat_natCast]
 ·
  cases h
end Go.Proofs.Ythobnoknbdljgaa.Stub2
end
section
namespace Go.Proofs.Ythobnoknbdljgaa.PL6
open Go.Proofs.Ythobnoknbdljgaa.PB0 Sq
open Go.RowKit Go.Proofs.Ythobnoknbdljgaa.Stub2 Go.Proofs.Ythobnoknbdljgaa.Stub Go.Proofs.Ythobnoknbdljgaa.Hand Go.Proofs.YthobnoknbdljgaaW.PrintWords Go.Proofs.YthobnoknbdljgaaW.PrintLast Go.Proofs.YthobnoknbdljgaaW.PrintMore
attribute [local go_sem] max2_int min2_int max_two min_two
set_option linter.unusedVariables false
set_option linter.unusedSimpArgs false
theorem eqA35 (d : Nat) (w : World) (x0 y0 : Int) (x1 y1 : Int) (x2 y2 : Int) (x3 y3 : Int) (x4 y4 : Int) (x5 y5 : Int) (x6 y6 : Int) :
  (Op.equalIn (d + 2) 35 (.agg #[.int .i64 x0, .int .i64 x1, .int .i64 x2, .int .i64 x3, .int .i64 x4, .int .i64 x5, .int .i64 x6]) (.agg #[.int .i64 y0, .int .i64 y1, .int .i64 y2, .int .i64 y3, .int .i64 y4, .int .i64 y5, .int .i64 y6])).run Try.prog w = .ok (x0 == y0 && (x1 == y1 && (x2 == y2 && (x3 == y3 && (x4 == y4 && (x5 == y5 && (x6 == y6))))))) w := by
 refine eqA_of Try.underlying35 (by kernel_rfl) ?_
 refine eqf_cons (by rfl) (by go_simp; rfl) (by go_simp; rfl) (by go_simp) ?_
 refine eqf_cons (by rfl) (by go_simp; rfl) (by go_simp; rfl) (by go_simp) ?_
 refine eqf_cons (by rfl) (by go_simp; rfl) (by go_simp; rfl) (by go_simp) ?_
 refine eqf_cons (by rfl) (by go_simp; rfl) (by go_simp; rfl) (by go_simp) ?_
 refine eqf_cons (by rfl) (by go_simp; rfl) (by go_simp; rfl) (by go_simp) ?_
 refine eqf_cons (by rfl) (by go_simp; rfl) (by go_simp; rfl) (by go_simp) ?_
 exact eqf_last (by rfl) (by go_simp; rfl) (by go_simp; rfl) (by go_simp)
end Go.Proofs.Ythobnoknbdljgaa.PL6
end
