/- What the claim needs of its texts, one behind the other (laid by a program of the session's). -/
import Derived.Test.YthobnoknbdljgaaZReads3
import Derived.Test.YthobnoknbdljgaaProg
import Derived.Below
import Derived.Deep.Draws
import Derived.Deep.AppendLies
import Derived.Maps.AppendAt
import Derived.OwnWalk
import Derived.Laws.BytesArg
import Derived.Laws.MakeOwn
import Derived.Laws.OwnMore
import Derived.Deep.OwnRows
import Derived.Tactics
import Derived.Lib.ConvBytes
import Derived.Laws.Slices
import Derived.WalkKit
import Derived.KernelRfl
import Derived.RowKit3
import Derived.Deep.LoopGhost
import Derived.Deep.QuietTactic
import Derived.BigQuiet
import Derived.WideLaws
import Derived.Deep.DeepCutAuto
import Derived.Deep.CutBlock
import Derived.Deep.RegionHeld3
import Derived.Laws.Rows
import Derived.Lib.AppendStr
import Derived.ArgAppend
import Derived.Laws.IdiomCopy
import Derived.OrdersHeld
import Derived.Laws.BitsLemmas
import Derived.RowKit
section
namespace Go.Proofs.Ythobnoknbdljgaa.Hand
open Go.RowKit Go.Proofs.YthobnoknbdljgaaW.PrintWords Go.Proofs.YthobnoknbdljgaaW.PrintLast Go.Proofs.YthobnoknbdljgaaW.PrintMore PB0
set_option linter.unusedVariables false
set_option linter.unusedSimpArgs false
set_option maxHeartbeats 8000000 in
set_option maxRecDepth 100000 in
theorem decode8_walk (A0 : Option Addr) (c0 : Nat) (l0 : List Int) (v : Int) (ut sd le ti ty ch : Nat) (w : World) (hr0 : Kd.C (Kd.int .u8) w A0 l0.length l0) (hc0 : l0.length ≤ c0) (hp : rightP v ut sd le ti ty ch) (hl : bodyN 8 ut sd le ti ty ch ≤ l0.length) :
  Calls Try.prog 21 #[.slice A0 l0.length c0, .agg #[.int .i64 v, .int .i64 ut, .int .i64 sd, .int .i64 le, .int .i64 ti, .int .i64 ty, .int .i64 ch], .int .i64 8] w fun e w' => ∃ v0_ v1_ v2_ v3_ v4_ : Value, ∃ (r1 : List S56) (r2 : List S54) (r3 : List S67) (r4 r5 : List Bool) (r6 : Int), block_Decode.f l0 v ut sd le ti ty ch 8 = some (r1, r2, r3, r4, r5, r6) ∧ e = .returned (.tuple #[.agg #[v0_, v1_, v2_, v3_, v4_], .int .i64 r6]) ∧ Kd.R k56 56 w' w.heap.size (fun _ => True) v0_ r1 ∧ Kd.R k54 54 w' w.heap.size (fun _ => True) v1_ r2 ∧ Kd.R k67 67 w' w.heap.size (fun _ => True) v2_ r3 ∧ Kd.R Kd.bool 4 w' w.heap.size (fun k_ => some k_ ≠ (v4_ : Value).ownBlock) v3_ r4 ∧ Kd.R Kd.bool 4 w' w.heap.size (fun k_ => some k_ ≠ (v3_ : Value).ownBlock) v4_ r5 ∧ Below w.heap.size w w' := by
 have hu27 := Try.underlying27
 have hu35 := Try.underlying35
 have hu81 := Try.underlying81
 have HB := Aside0.mk (Below.refl w.heap.size w)
 have HP := Aside0.mk (show PB0.header_Right.f v ut sd le ti ty ch = some true by rw [hright_f, decide_eq_true hp])
 have HBO := Aside0.mk (body_8 v ut sd le ti ty ch hp)
 have hbd : ti ≤ 5000 ∧ le ≤ 5000 ∧ ty ≤ 256 ∧ ch ≤ 256 ∧ ut ≤ 256 ∧ sd ≤ 256 := by
  obtain ⟨h1, h2, h3, h4, h5, h6, h7⟩ := hp
  omega
 obtain ⟨nB, hnB⟩ : ∃ x, x = bodyN 8 ut sd le ti ty ch := ⟨_, rfl⟩
 rw [← hnB] at hl HBO
 obtain ⟨bs, hbs⟩ : ∃ x, x = l0.take nB := ⟨_, rfl⟩
 have hbl : bs.length = nB := by rw [hbs, List.length_take]; omega
 have HC := Aside0.mk (show Kd.C (Kd.int .u8) w A0 bs.length bs by rw [hbs]; exact Kd.C_take hr0 hl)
 have HF := Aside0.mk (show ∀ (p q : Bool), dOK 8 ut sd le ti ty ch bs = p → dRight 8 v ut sd le ti ty ch bs = q → block_Decode.f l0 v ut sd le ti ty ch 8 = if p = true ∧ q = true then some (dK 8 ti ty ch bs, dJ 8 ti bs, dL 8 le ti ty ch bs, isOne (dS 8 sd le ti ty ch bs), isOne (dU 8 ut sd le ti ty ch bs), 0) else some ([], [], [], [], [], 4) from by
  intro p q e1 e2
  unfold block_Decode.f
  rw [if_pos ⟨by decide, hp⟩]
  simp only [Int.toNat_natCast, show ((8 : Int)).toNat = 8 from rfl]
  rw [← hnB, if_neg (by omega), ← hbs, e1, e2])
 have HN := Aside0.mk hnB
 have HL := Aside0.mk hbl
 have ha := cut_h A0 l0.length c0 (nB : Int) (by omega) (by omega)
 rw [Int.toNat_natCast] at ha
 have HQ := Aside0.mk (show nB ≤ c0 by omega)
 have hlt0 : decide ((l0.length : Int) < (nB : Int)) = false := decide_eq_false (by omega)
 have hlt1 : decide (l0.length < nB) = false := decide_eq_false (by omega)
 clear hnB hbs hbl hr0 hc0 hp hl
 go_enter Try.func21, Try.ntmps21
 go_upto_region 7 with (first
  | ((with_reducible refine gate_dst (N := 4) rfl ?_); refine box_event ?hg (N := 4) ?hd (cs := #[.int .i64 v, .int .i64 ut, .int .i64 sd, .int .i64 le, .int .i64 ti, .int .i64 ty, .int .i64 ch]) (t := 35) ?hr ?_; (case hd => rfl); (case hg => rfl); (case hr => first | (go_simp; done) | (go_simp; rfl)); intro g4 hg w1 hbox hb; have Bg4 := Aside0.mk hbox; have GEg4 := Aside0.mk (show w.heap.size ≤ g4 by first | omega | (have h_ := below_size HB.out; omega)); clear hbox hg; have n0_ := Aside0.mk (below_step HB.out hb); clear HB; have HB := n0_; clear n0_ hb; obtain ⟨s0, s1, s2, s3, s4, s5, s6⟩ := Sq.c7 Bg4)
  | ((with_reducible refine gate_dst (N := 6) rfl ?_); refine box_event ?hg (N := 6) ?hd (cs := #[.slice none 0 0, .slice none 0 0, .slice none 0 0, .slice none 0 0, .slice none 0 0]) (t := 27) ?hr ?_; (case hd => rfl); (case hg => rfl); (case hr => first | (go_simp; done) | (go_simp; rfl)); intro g6 hg w2 hbox hb; have Bg6 := Aside0.mk hbox; have GEg6 := Aside0.mk (show w.heap.size ≤ g6 by first | omega | (have h_ := below_size HB.out; omega)); have NE46 := Aside0.mk (show g4 ≠ g6 by have := blk_lt Bg4.out; omega); clear hbox hg; have n0_ := Aside0.mk (blk_below Bg4.out hb); have n1_ := Aside0.mk (below_step HB.out hb); clear Bg4 HB; have Bg4 := n0_; have HB := n1_; clear n0_ n1_ hb; obtain ⟨t0, t1, t2, t3, t4, t5, t6⟩ := Sq.c7 Bg4)
  | (go_at_call 19; (with_reducible refine (PB0.header_Right.calls v ut sd le ti ty ch true _ HP.out).mono ?_); rintro e w3 ⟨rfl, hb⟩; have n0_ := Aside0.mk (blk_below Bg4.out hb); have n1_ := Aside0.mk (blk_below Bg6.out hb); have n2_ := Aside0.mk (below_step HB.out hb); clear Bg4 Bg6 HB; have Bg4 := n0_; have Bg6 := n1_; have HB := n2_; clear n0_ n1_ n2_ hb; obtain ⟨x0, x1, x2, x3, x4, x5, x6⟩ := Sq.c7 Bg4)
  | (go_at_call 20; (with_reducible refine (PB0.header_Body.calls v ut sd le ti ty ch 8 (nB : Int) _ HBO.out).mono ?_); rintro e w4 ⟨rfl, hb⟩; have n0_ := Aside0.mk (blk_below Bg4.out hb); have n1_ := Aside0.mk (blk_below Bg6.out hb); have n2_ := Aside0.mk (below_step HB.out hb); clear Bg4 Bg6 HB; have Bg4 := n0_; have Bg6 := n1_; have HB := n2_; clear n0_ n1_ n2_ hb; obtain ⟨y0, y1, y2, y3, y4, y5, y6⟩ := Sq.c7 Bg4)
  | ((with_reducible refine gate_dst (N := 40) rfl ?_); refine box_event ?hg (N := 40) ?hd (cs := #[.slice A0 nB c0, .bool true]) (t := 81) ?hr ?_; (case hd => rfl); (case hg => rfl); (case hr => first | (go_simp; done) | (go_simp; rfl)); intro gr hg w5 hbox hb; have Bgr := Aside0.mk hbox; have GEgr := Aside0.mk (show w.heap.size ≤ gr by first | omega | (have h_ := below_size HB.out; omega)); have NE6r := Aside0.mk (show g6 ≠ gr by have := blk_lt Bg6.out; omega); have NE4r := Aside0.mk (show g4 ≠ gr by have := blk_lt Bg4.out; omega); clear hbox hg; have n0_ := Aside0.mk (blk_below Bg4.out hb); have n1_ := Aside0.mk (blk_below Bg6.out hb); have n2_ := Aside0.mk (below_step HB.out hb); clear Bg4 Bg6 HB; have Bg4 := n0_; have Bg6 := n1_; have HB := n2_; clear n0_ n1_ n2_ hb))
 refine forget_wp (fun wc => Aside0 (wc.heap[g4]? = some (.cells #[.int .i64 v, .int .i64 ut, .int .i64 sd, .int .i64 le, .int .i64 ti, .int .i64 ty, .int .i64 ch] 35 (0, 0))) ∧ Aside0 (wc.heap[g6]? = some (.cells #[.slice none 0 0, .slice none 0 0, .slice none 0 0, .slice none 0 0, .slice none 0 0] 27 (0, 0))) ∧ Aside0 (Rd w gr (bs.drop (8 * 0)) true wc) ∧ Aside0 (gr < wc.heap.size)) ⟨Bg4, Bg6, ⟨GEgr.out, HB.out, A0, c0, by rw [Nat.mul_zero, List.drop_zero, HL.out]; exact Bgr.out, by rw [Nat.mul_zero, List.drop_zero]; exact HC.out, by rw [Nat.mul_zero, List.drop_zero, HL.out]; exact HQ.out⟩, ⟨blk_lt Bgr.out⟩⟩ ?_
 clear Bg4 Bg6 Bgr HB ha hlt0 hlt1 HC HQ HP HBO
 try clear s0 s1 s2 s3 s4 s5 s6
 try clear t0 t1 t2 t3 t4 t5 t6
 try clear x0 x1 x2 x3 x4 x5 x6
 try clear y0 y1 y2 y3 y4 y5 y6
 rintro w6 ⟨B4, B6, HR, LTr⟩
 have h4 : w6.cell? ⟨g4, 4, none⟩ = some (.int .i64 ti) := (blk_cell B4.out 4).trans rfl
 go_wp2
 go_loopw [43] (fun i wr => ∃ (k : Nat) (v1 : Value), k ≤ ti ∧ i = .int .i64 k ∧ Kd.R k54 54 wr w.heap.size (fun _ => True) v1 ((List.range k).map (jump0 8 bs)) ∧ Aside0 (wr.heap[g4]? = some (.cells #[.int .i64 v, .int .i64 ut, .int .i64 sd, .int .i64 le, .int .i64 ti, .int .i64 ty, .int .i64 ch] 35 (0, 0))) ∧ Aside0 (wr.heap[g6]? = some (.cells #[.slice none 0 0, v1, .slice none 0 0, .slice none 0 0, .slice none 0 0] 27 (0, 0))) ∧ Aside0 (Rd w gr (bs.drop (8 * k)) true wr) ∧ Aside0 (gr < wr.heap.size)) (fun i _ => ti - (intOf i).toNat)
 case atStart => exact ⟨0, _, Nat.zero_le _, rfl, Kd.R_nil _ _ _ _ _, B4, B6, HR, LTr⟩
 clear B4 B6 HR LTr h4
 obtain ⟨k, v1, hk, rfl, hO, B4, B6, HR, LTr⟩ := hrel
 have HO := Aside0.mk hO
 clear hO
 by_cases hlt : k < ti
 ·
  have cl : decide ((k : Int) < (ti : Int)) = true := decide_eq_true (by omega)
  have HE := Aside0.mk (show 8 ≤ (bs.drop (8 * k)).length from (by have h1_ := HN.out; have h2_ := HL.out; rw [List.length_drop]; simp only [bodyN, o1, o2, o3, o4, o5] at h1_ ⊢; omega))
  go_upto_region 9 with fail
  refine region_Z 9 (fun w' => w'.cell? ⟨g6, 1, none⟩ = some v1) (by kernel_rfl) ?_
  refine zt 0 ((blk_cell B6.out 1).trans rfl) ?_; refine zt 1 ((blk_cell B6.out 1).trans rfl) ?_; refine zt 2 ((blk_cell B6.out 1).trans rfl) ?_; refine zt 3 ((blk_cell B6.out 1).trans rfl) ?_
  (refine wpZ_one (i := 4) (by kernel_rfl) rfl (fun K_ hK_ => ?_); go_simp; go_wp2_with (first | (go_at_call 37; (with_reducible refine (number_8 (rd_drew HR.out) HE.out).mono ?_); rintro e w7 ⟨rfl, hR1, hK1⟩; have n0_ := Aside0.mk (blk_kb (blk_drew B4.out) hK1 NE4r.out); have n1_ := Aside0.mk (blk_kb (blk_drew B6.out) hK1 NE6r.out); have n2_ := Aside0.mk (R_kb (Kd.R_drew HO.out) (rd_drew HR.out) (by decide) hK1); have n3_ := Aside0.mk (Nat.lt_of_lt_of_le LTr.out hK1.1); have n4_ := Aside0.mk hR1; clear B4 B6 HO LTr HR hR1 hK1; have B4 := n0_; have B6 := n1_; have HO := n2_; have LTr := n3_; have HR := n4_; clear n0_ n1_ n2_ n3_ n4_)); refine hK_.out _ _ (fun _ => (blk_cell B6.out 1).trans rfl) ?_; clear hK_ K_; (try simp only [Act.put, List.setIfInBounds_toArray, List.set_cons_zero, List.set_cons_succ]))
  refine zt 5 ((blk_cell B6.out 1).trans rfl) ?_
  (refine wpZ_one (i := 6) (by kernel_rfl) rfl (fun K_ hK_ => ?_); go_simp; refine hK_.out _ _ (fun _ => (blk_cell (blk_alloc B6.out _) 1).trans rfl) ?_; clear hK_ K_; (try simp only [Act.put, List.setIfInBounds_toArray, List.set_cons_zero, List.set_cons_succ]))
  (refine wpZ_one (i := 7) (by kernel_rfl) rfl (fun K_ hK_ => ?_); refine Kd.R_append_step k54 (w0 := w7) w.heap.size rfl (.tmp 46) (.tmp 51) 23 54 (.agg #[.int .i64 0, .int .i64 0]) 16 rfl Try.underlying23 info_jump rfl (by decide) (by omega) v1 ((List.range k).map (jump0 8 bs)) (jump0 8 bs k) [.int .i64 (numU 8 (bs.drop (8 * k))), .int .i64 0] (fun _ => True) (fun _ => False) rfl rfl (k54_mkM _ _ _ (jump0 8 bs k)) (fun _ h => h.elim) (fun _ _ => trivial) HO.out (Below.refl _ _) (Nat.le_of_lt (Nat.lt_of_le_of_lt HR.out.1 LTr.out)) (by simp only [List.length_map, List.length_range]; omega) ?_; intro v7 w8 ho hb hg hat; have n0_ := Aside0.mk (blk_grown B4.out hg (Kd.R_ne HO.out B4.out (by decide))); have n1_ := Aside0.mk (blk_grown B6.out hg (Kd.R_ne HO.out B6.out (by decide))); have n2_ := Aside0.mk (Nat.lt_of_lt_of_le LTr.out hg.size); have n3_ := Aside0.mk (rd_grown HR.out HO.out (by decide) hb hg); have n4_ := Aside0.mk ho; clear B4 B6 LTr HR HO ho hb hg hat; have B4 := n0_; have B6 := n1_; have LTr := n2_; have HR := n3_; have HO := n4_; clear n0_ n1_ n2_ n3_ n4_; refine hK_.out _ _ (fun _ => (blk_cell B6.out 1).trans rfl) ?_; clear hK_ K_; (try simp only [Act.put, List.setIfInBounds_toArray, List.set_cons_zero, List.set_cons_succ]))
  obtain ⟨A7, c7, rfl⟩ := Kd.R_slice HO.out
  refine zt 8 ((blk_cell B6.out 1).trans rfl) ?_
  have z1 : w8.cell? ⟨g6, 1, none⟩ = some v1 := (blk_cell B6.out 1).trans rfl
  have z2 := blk_frozen B6.out 1
  (refine wpZ_one (i := 9) (by kernel_rfl) rfl (fun K_ hK_ => ?_); go_simp; refine hK_.out _ _ (fun h => absurd rfl h) ?_; clear hK_ K_; (try simp only [Act.put, List.setIfInBounds_toArray, List.set_cons_zero, List.set_cons_succ]))
  refine wpZ_done (by kernel_rfl) ?_ _
  clear z1 z2
  go_wp2
  go_roundw
  case rel =>
   refine ⟨k + 1, _, by omega, by go_num, ?_, ⟨blk_far B4.out NE46.out _⟩, ⟨blk_put B6.out 1 _ rfl⟩, ⟨?_⟩, ⟨by rw [World.size_setCell]; exact LTr.out⟩⟩
   ·
    rw [map_snoc]
    have h := Kd.R_set HO.out B6.out (by decide) 1
    first | exact h _ | (simp only [List.length_append, List.length_map, List.length_range, List.length_cons, List.length_nil] at h ⊢; exact h _)
   have h := rd_set HR.out NE6r.out GEg6.out 1
   rw [List.drop_drop] at h
   exact h _
  case measure => simp [intOf]; omega
 have hkt : ti = k := by omega
 subst hkt
 have cl : decide ((ti : Int) < (ti : Int)) = false := decide_eq_false (by omega)
 obtain ⟨A1, c1, rfl⟩ := Kd.R_slice HO.out
 have hl1 : ((List.range ti).map (jump0 8 bs)).length = ti := by simp
 rw [hl1] at HO B6
 rw [← jl_zero] at HO
 clear hl1 hlt hk
 have h1 : wr.cell? ⟨g6, 1, none⟩ = some (.slice A1 ti c1) := (blk_cell B6.out 1).trans rfl
 go_wp2
 go_loopw [58] (fun i wr => ∃ (k : Nat), k ≤ ti ∧ i = .int .i64 k ∧ Kd.R k54 54 wr w.heap.size (fun _ => True) (.slice A1 ti c1) (jl 8 ti bs k) ∧ Aside0 (wr.heap[g4]? = some (.cells #[.int .i64 v, .int .i64 ut, .int .i64 sd, .int .i64 le, .int .i64 ti, .int .i64 ty, .int .i64 ch] 35 (0, 0))) ∧ Aside0 (wr.heap[g6]? = some (.cells #[.slice none 0 0, .slice A1 ti c1, .slice none 0 0, .slice none 0 0, .slice none 0 0] 27 (0, 0))) ∧ Aside0 (Rd w gr (bs.drop (8 * ti + k)) true wr) ∧ Aside0 (gr < wr.heap.size)) (fun i _ => ti - (intOf i).toNat)
 case atStart => exact ⟨0, Nat.zero_le _, rfl, HO.out, B4, B6, HR, LTr⟩
 clear B4 B6 HR LTr h1 HO cl
 obtain ⟨k, hk, rfl, hO, B4, B6, HR, LTr⟩ := hrel
 have HO := Aside0.mk hO
 clear hO
 by_cases hlt : k < ti
 ·
  have cl : decide ((k : Int) < (ti : Int)) = true := decide_eq_true (by omega)
  have ck0 : decide (0 ≤ (k : Int)) = true := decide_eq_true (by omega)
  have HE := Aside0.mk (show 1 ≤ (bs.drop (8 * ti + k)).length from (by have h1_ := HN.out; have h2_ := HL.out; rw [List.length_drop]; simp only [bodyN, o1, o2, o3, o4, o5] at h1_ ⊢; omega))
  obtain ⟨g, cap, hv, _, hg0, cells, hcells⟩ := Kd.R_form HO.out (by rw [jl_len]; omega)
  rw [jl_len] at hv
  injection hv with e1 _ e3
  subst e1
  subst e3
  go_upto_region 14 with fail
  refine region_Z 99 (fun w' => w'.cell? ⟨g6, 1, none⟩ = some (.slice (some ⟨g, 0, none⟩) ti c1)) (by kernel_rfl) ?_
  refine zt 0 ((blk_cell B6.out 1).trans rfl) ?_; refine zt 1 ((blk_cell B6.out 1).trans rfl) ?_; refine zt 2 ((blk_cell B6.out 1).trans rfl) ?_; refine zt 3 ((blk_cell B6.out 1).trans rfl) ?_
  (refine wpZ_one (i := 4) (by kernel_rfl) rfl (fun K_ hK_ => ?_); go_simp; go_wp2_with (first | (go_at_call 38; (with_reducible refine (take_1 (rd_drew HR.out) HE.out).mono ?_); rintro e w7 ⟨ad, c7, rfl, hx0, hR1, hK1⟩; have n0_ := Aside0.mk (blk_kb (blk_drew B4.out) hK1 NE4r.out); have n1_ := Aside0.mk (blk_kb (blk_drew B6.out) hK1 NE6r.out); have n2_ := Aside0.mk (R_kb (Kd.R_drew HO.out) (rd_drew HR.out) (by decide) hK1); have n3_ := Aside0.mk (Nat.lt_of_lt_of_le LTr.out hK1.1); have n4_ := Aside0.mk hR1; clear B4 B6 HO LTr HR hR1 hK1; have B4 := n0_; have B6 := n1_; have HO := n2_; have LTr := n3_; have HR := n4_; clear n0_ n1_ n2_ n3_ n4_)); refine hK_.out _ _ (fun _ => (blk_cell B6.out 1).trans rfl) ?_; clear hK_ K_; (try simp only [Act.put, List.setIfInBounds_toArray, List.set_cons_zero, List.set_cons_succ]))
  (refine wpZ_one (i := 5) (by kernel_rfl) rfl (fun K_ hK_ => ?_); go_simp; refine hK_.out _ _ (fun _ => (blk_cell B6.out 1).trans rfl) ?_; clear hK_ K_; (try simp only [Act.put, List.setIfInBounds_toArray, List.set_cons_zero, List.set_cons_succ]))
  (refine wpZ_one (i := 6) (by kernel_rfl) rfl (fun K_ hK_ => ?_); go_simp; refine hK_.out _ _ (fun _ => (blk_cell B6.out 1).trans rfl) ?_; clear hK_ K_; (try simp only [Act.put, List.setIfInBounds_toArray, List.set_cons_zero, List.set_cons_succ]))
  (refine wpZ_one (i := 7) (by kernel_rfl) rfl (fun K_ hK_ => ?_); go_simp; refine hK_.out _ _ (fun _ => (blk_cell B6.out 1).trans rfl) ?_; clear hK_ K_; (try simp only [Act.put, List.setIfInBounds_toArray, List.set_cons_zero, List.set_cons_succ]))
  obtain ⟨HS1, HS2, ⟨u0, hz1⟩, hz2⟩ := jump_put HO.out k hlt (wrap64 (rd (bs.drop (8 * ti + k)) 0))
  have HS := Aside0.mk HS1
  have HG := Aside0.mk HS2
  clear HS1 HS2
  (refine wpZ_one (i := 8) (by kernel_rfl) rfl (fun K_ hK_ => ?_); go_simp; refine hK_.out _ _ (fun _ => (blk_cell B6.out 1).trans rfl) ?_; clear hK_ K_; (try simp only [Act.put, List.setIfInBounds_toArray, List.set_cons_zero, List.set_cons_succ]))
  (refine wpZ_one (i := 9) (by kernel_rfl) rfl (fun K_ hK_ => ?_); go_simp; refine hK_.out _ _ (fun _ => (blk_cell B6.out 1).trans rfl) ?_; clear hK_ K_; (try simp only [Act.put, List.setIfInBounds_toArray, List.set_cons_zero, List.set_cons_succ]))
  have hn6 : g6 ≠ g := fun e => Kd.R_ne HO.out B6.out (by decide) (by rw [e]; simp [Value.ownBlock])
  have hn4 : g4 ≠ g := fun e => Kd.R_ne HO.out B4.out (by decide) (by rw [e]; simp [Value.ownBlock])
  obtain ⟨cells7, hcells7⟩ := Kd.R_typed HO.out g (by simp [Value.ownBlock])
  have hge := Kd.R_base HO.out g (by simp [Value.ownBlock])
  have HC7 := Aside0.mk (And.intro hcells7 hge)
  clear hcells7 hge
  (refine wpZ_one (i := 10) (by kernel_rfl) rfl (fun K_ hK_ => ?_); go_simp; refine hK_.out _ _ (fun _ => (blk_cell (blk_far B6.out hn6 _) 1).trans rfl) ?_; clear hK_ K_; (try simp only [Act.put, List.setIfInBounds_toArray, List.set_cons_zero, List.set_cons_succ]))
  refine wpZ_done (by kernel_rfl) ?_ _
  clear hz1 hz2 hx0
  go_wp2
  go_roundw
  case rel =>
   refine ⟨k + 1, by omega, by go_num, ?_, ⟨blk_far B4.out hn4 _⟩, ⟨blk_far B6.out hn6 _⟩, ⟨?_⟩, ⟨by rw [World.size_setCell]; exact LTr.out⟩⟩
   ·
    rw [← jl_set 8 ti bs k hlt]
    exact HS.out
   have h := rd_grow HR.out HG.out HC7.out.1 (by decide) HC7.out.2
   rw [List.drop_drop, Nat.add_assoc] at h
   exact h
  case measure => simp [intOf]; omega
 have hkt : ti = k := by omega
 subst hkt
 have cl : decide ((ti : Int) < (ti : Int)) = false := decide_eq_false (by omega)
 rw [jl_all] at HO
 obtain ⟨v1, hv1⟩ : ∃ x, x = Value.slice A1 ti c1 := ⟨_, rfl⟩
 rw [← hv1] at HO B6
 clear hv1 hlt hk
 have hoff : 8 * ti + ti = o1 8 ti + 6 * 0 := by unfold o1; omega
 rw [hoff] at HR
 clear hoff
 have h5 : wr.cell? ⟨g4, 5, none⟩ = some (.int .i64 ty) := (blk_cell B4.out 5).trans rfl
 have HJ := HO
 clear HO
 go_wp2
 go_loopw [11, 74] (fun va i wr => ∃ (k : Nat) (v0 : Value), k ≤ ty ∧ i = .int .i64 k ∧ Kd.R k56 56 wr w.heap.size (fun _ => True) v0 ((List.range k).map (kind0 (o1 8 ti) bs)) ∧ Aside0 (Kd.R (Kd.int .i64) 3 wr w.heap.size (fun _ => True) va ((List.range k).map (kat (o1 8 ti) bs))) ∧ Aside0 (Kd.R k54 54 wr w.heap.size (fun _ => True) v1 (dJ 8 ti bs)) ∧ Aside0 (wr.heap[g4]? = some (.cells #[.int .i64 v, .int .i64 ut, .int .i64 sd, .int .i64 le, .int .i64 ti, .int .i64 ty, .int .i64 ch] 35 (0, 0))) ∧ Aside0 (wr.heap[g6]? = some (.cells #[v0, v1, .slice none 0 0, .slice none 0 0, .slice none 0 0] 27 (0, 0))) ∧ Aside0 (Rd w gr (bs.drop (o1 8 ti + 6 * k)) ((List.range k).all (ktrue (o1 8 ti) bs)) wr) ∧ Aside0 (gr < wr.heap.size)) (fun _ i _ => ty - (intOf i).toNat)
 case atStart => exact ⟨0, _, Nat.zero_le _, rfl, Kd.R_nil _ _ _ _ _, ⟨Kd.R_nil _ _ _ _ _⟩, HJ, B4, B6, HR, LTr⟩
 clear B4 B6 HR LTr h5 HJ cl
 obtain ⟨k, v0, hk, rfl, hO, HT, HJ, B4, B6, HR, LTr⟩ := hrel
 have HO := Aside0.mk hO
 clear hO
 by_cases hlt : k < ty
 ·
  have cl : decide ((k : Int) < (ty : Int)) = true := decide_eq_true (by omega)
  have HE := Aside0.mk (show 4 ≤ (bs.drop (o1 8 ti + 6 * k)).length from (by have h1_ := HN.out; have h2_ := HL.out; rw [List.length_drop]; simp only [bodyN, o1, o2, o3, o4, o5] at h1_ ⊢; omega))
  have HE2 := Aside0.mk (show 1 ≤ ((bs.drop (o1 8 ti + 6 * k)).drop 4).length from by rw [List.drop_drop]; exact (by have h1_ := HN.out; have h2_ := HL.out; rw [List.length_drop]; simp only [bodyN, o1, o2, o3, o4, o5] at h1_ ⊢; omega))
  go_upto_region 19 with fail
  refine region_Z 10 (fun w' => w'.cell? ⟨g6, 0, none⟩ = some v0) (by kernel_rfl) ?_
  refine zt 0 ((blk_cell B6.out 0).trans rfl) ?_; refine zt 1 ((blk_cell B6.out 0).trans rfl) ?_; refine zt 2 ((blk_cell B6.out 0).trans rfl) ?_; refine zt 4 ((blk_cell B6.out 0).trans rfl) ?_
  (refine wpZ_one (i := 3) (by kernel_rfl) rfl (fun K_ hK_ => ?_); go_simp; go_wp2_with (first | (go_at_call 37; (with_reducible refine (number_4 (rd_drew HR.out) HE.out).mono ?_); rintro e w7 ⟨rfl, hR1, hK1⟩; have n0_ := Aside0.mk (blk_kb (blk_drew B4.out) hK1 NE4r.out); have n1_ := Aside0.mk (blk_kb (blk_drew B6.out) hK1 NE6r.out); have n2_ := Aside0.mk (R_kb (Kd.R_drew HO.out) (rd_drew HR.out) (by decide) hK1); have n3_ := Aside0.mk (R_kb (Kd.R_drew HJ.out) (rd_drew HR.out) (by decide) hK1); have n4_ := Aside0.mk (R_kb (Kd.R_drew HT.out) (rd_drew HR.out) (by decide) hK1); have n5_ := Aside0.mk (Nat.lt_of_lt_of_le LTr.out hK1.1); have n6_ := Aside0.mk hR1; clear B4 B6 HO HJ HT LTr HR hR1 hK1; have B4 := n0_; have B6 := n1_; have HO := n2_; have HJ := n3_; have HT := n4_; have LTr := n5_; have HR := n6_; clear n0_ n1_ n2_ n3_ n4_ n5_ n6_)); refine hK_.out _ _ (fun _ => (blk_cell B6.out 0).trans rfl) ?_; clear hK_ K_; (try simp only [Act.put, List.setIfInBounds_toArray, List.set_cons_zero, List.set_cons_succ]))
  (refine wpZ_one (i := 5) (by kernel_rfl) rfl (fun K_ hK_ => ?_); go_simp; go_wp2_with (first | (go_at_call 39; (with_reducible refine (truth_c HR.out HE2.out).mono ?_); rintro e w8 ⟨rfl, hR1, hK1⟩; have n0_ := Aside0.mk (blk_kb (B4.out) hK1 NE4r.out); have n1_ := Aside0.mk (blk_kb (B6.out) hK1 NE6r.out); have n2_ := Aside0.mk (R_kb (HO.out) (HR.out) (by decide) hK1); have n3_ := Aside0.mk (R_kb (HJ.out) (HR.out) (by decide) hK1); have n4_ := Aside0.mk (R_kb (HT.out) (HR.out) (by decide) hK1); have n5_ := Aside0.mk (Nat.lt_of_lt_of_le LTr.out hK1.1); have n6_ := Aside0.mk hR1; clear B4 B6 HO HJ HT LTr HR hR1 hK1; have B4 := n0_; have B6 := n1_; have HO := n2_; have HJ := n3_; have HT := n4_; have LTr := n5_; have HR := n6_; clear n0_ n1_ n2_ n3_ n4_ n5_ n6_)); refine hK_.out _ _ (fun _ => (blk_cell B6.out 0).trans rfl) ?_; clear hK_ K_; (try simp only [Act.put, List.setIfInBounds_toArray, List.set_cons_zero, List.set_cons_succ]))
  refine zt 6 ((blk_cell B6.out 0).trans rfl) ?_
  (refine wpZ_one (i := 7) (by kernel_rfl) rfl (fun K_ hK_ => ?_); go_simp; refine hK_.out _ _ (fun _ => (blk_cell (blk_alloc B6.out _) 0).trans rfl) ?_; clear hK_ K_; (try simp only [Act.put, List.setIfInBounds_toArray, List.set_cons_zero, List.set_cons_succ]))
  simp only [List.drop_drop] at HR
  (refine wpZ_one (i := 8) (by kernel_rfl) rfl (fun K_ hK_ => ?_); refine Kd.R_append_step k56 (w0 := w8) w.heap.size rfl (.tmp 77) (.tmp 83) 22 56 (.agg #[.int .i64 0, .bool false, .string ⟨#[]⟩]) 32 rfl Try.underlying22 info_kind rfl (by decide) (by omega) v0 ((List.range k).map (kind0 (o1 8 ti) bs)) (kind0 (o1 8 ti) bs k) [.int .i64 (numU 4 (bs.drop (o1 8 ti + 6 * k))), .bool (rd (bs.drop (o1 8 ti + 6 * k + 4)) 0 == 1), .string ⟨#[]⟩] (fun _ => True) (fun _ => False) rfl rfl (k56_mkM _ _ _ (kind0 (o1 8 ti) bs k)) (fun _ h => h.elim) (fun _ _ => trivial) HO.out (Below.refl _ _) (Nat.le_of_lt (Nat.lt_of_le_of_lt HR.out.1 LTr.out)) (by simp only [List.length_map, List.length_range]; omega) ?_; intro v7 w9 ho hb hg hat; have n0_ := Aside0.mk (blk_grown B4.out hg (Kd.R_ne HO.out B4.out (by decide))); have n1_ := Aside0.mk (blk_grown B6.out hg (Kd.R_ne HO.out B6.out (by decide))); have n2_ := Aside0.mk (Kd.R_over' HJ.out (Kd.R_typed HO.out) (by decide) hg); have n3_ := Aside0.mk (Kd.R_over' HT.out (Kd.R_typed HO.out) (by decide) hg); have n4_ := Aside0.mk (Nat.lt_of_lt_of_le LTr.out hg.size); have n5_ := Aside0.mk (rd_grown HR.out HO.out (by decide) hb hg); have n6_ := Aside0.mk ho; clear B4 B6 HJ HT LTr HR HO ho hb hg hat; have B4 := n0_; have B6 := n1_; have HJ := n2_; have HT := n3_; have LTr := n4_; have HR := n5_; have HO := n6_; clear n0_ n1_ n2_ n3_ n4_ n5_ n6_; refine hK_.out _ _ (fun _ => (blk_cell B6.out 0).trans rfl) ?_; clear hK_ K_; (try simp only [Act.put, List.setIfInBounds_toArray, List.set_cons_zero, List.set_cons_succ]))
  obtain ⟨A7, c7, rfl⟩ := Kd.R_slice HO.out
  refine zt 9 ((blk_cell B6.out 0).trans rfl) ?_
  have z1 : w9.cell? ⟨g6, 0, none⟩ = some v0 := (blk_cell B6.out 0).trans rfl
  have z2 := blk_frozen B6.out 0
  (refine wpZ_one (i := 10) (by kernel_rfl) rfl (fun K_ hK_ => ?_); go_simp; refine hK_.out _ _ (fun h => absurd rfl h) ?_; clear hK_ K_; (try simp only [Act.put, List.setIfInBounds_toArray, List.set_cons_zero, List.set_cons_succ]))
  refine wpZ_done (by kernel_rfl) ?_ _
  clear z1 z2
  obtain ⟨vk, hvk⟩ : ∃ x, x = Value.slice A7 ((List.range k).map (kind0 (o1 8 ti) bs) ++ [kind0 (o1 8 ti) bs k]).length c7 := ⟨_, rfl⟩
  rw [← hvk] at HO
  have hvk2 : Value.slice A7 (k + 1) c7 = vk := by rw [hvk]; simp
  try rw [hvk2]
  try rw [← hvk]
  clear hvk hvk2
  have n0_ := Aside0.mk (show (w9.setCell ⟨g6, 0, none⟩ vk).heap[g4]? = _ from blk_far B4.out NE46.out _); have n1_ := Aside0.mk (show (w9.setCell ⟨g6, 0, none⟩ vk).heap[g6]? = some (.cells #[vk, v1, .slice none 0 0, .slice none 0 0, .slice none 0 0] 27 (0, 0)) from blk_put B6.out 0 _ rfl); have n2_ := Aside0.mk (Kd.R_set HO.out B6.out (by decide) 0 vk); have n3_ := Aside0.mk (Kd.R_set HT.out B6.out (by decide) 0 vk); have n4_ := Aside0.mk (Kd.R_set HJ.out B6.out (by decide) 0 vk); have n5_ := Aside0.mk (rd_set HR.out NE6r.out GEg6.out 0 vk); have n6_ := Aside0.mk (show gr < (w9.setCell ⟨g6, 0, none⟩ vk).heap.size by rw [World.size_setCell]; exact LTr.out); clear B4 B6 HO HT HJ HR LTr; obtain ⟨w10, hwc_⟩ : ∃ x, x = (w9.setCell ⟨g6, 0, none⟩ vk) := ⟨_, rfl⟩; rw [← hwc_] at n0_ n1_ n2_ n3_ n4_ n5_ n6_ ⊢; clear hwc_; have B4 := n0_; have B6 := n1_; have HO := n2_; have HT := n3_; have HJ := n4_; have HR := n5_; have LTr := n6_; clear n0_ n1_ n2_ n3_ n4_ n5_ n6_
  clear HE HE2
  have HE := Aside0.mk (show 1 ≤ (bs.drop (o1 8 ti + 6 * k + 4 + 1)).length from (by have h1_ := HN.out; have h2_ := HL.out; rw [List.length_drop]; simp only [bodyN, o1, o2, o3, o4, o5] at h1_ ⊢; omega))
  go_wp2_with (first
   | (go_at_call 38; (with_reducible refine (take_1 HR.out HE.out).mono ?_); rintro e w11 ⟨ad, c8, rfl, hx0, hR1, hK1⟩; have n0_ := Aside0.mk (blk_kb (B4.out) hK1 NE4r.out); have n1_ := Aside0.mk (blk_kb (B6.out) hK1 NE6r.out); have n2_ := Aside0.mk (R_kb (HO.out) (HR.out) (by decide) hK1); have n3_ := Aside0.mk (R_kb (HJ.out) (HR.out) (by decide) hK1); have n4_ := Aside0.mk (R_kb (HT.out) (HR.out) (by decide) hK1); have n5_ := Aside0.mk (Nat.lt_of_lt_of_le LTr.out hK1.1); have n6_ := Aside0.mk hR1; clear B4 B6 HO HJ HT LTr HR hR1 hK1; have B4 := n0_; have B6 := n1_; have HO := n2_; have HJ := n3_; have HT := n4_; have LTr := n5_; have HR := n6_; clear n0_ n1_ n2_ n3_ n4_ n5_ n6_)
   | ((with_reducible refine gate_builtin (b := .append) (xs := #[.tmp 86, .tmp 92]) rfl ?_); at_builtin; refine Kd.R_append (Kd.int .i64) (w0 := w11) w.heap.size rfl (.tmp 86) (.tmp 92) 62 3 (.int .i64 0) 8 rfl Try.underlying62 info_int rfl (by decide) (by omega) u11 ((List.range k).map (kat (o1 8 ti) bs)) (wrap64 (rd (bs.drop (o1 8 ti + 6 * k + 4 + 1)) 0)) [.int .i64 (wrap64 (rd (bs.drop (o1 8 ti + 6 * k + 4 + 1)) 0))] (fun _ => True) (fun _ => False) rfl rfl rfl (fun _ h => h.elim) (fun _ _ => trivial) HT.out (Below.refl _ _) (Nat.le_of_lt (Nat.lt_of_le_of_lt HR.out.1 LTr.out)) (by simp only [List.length_map, List.length_range]; omega) ?_; intro v7 w12 ho hb hg hat; have n0_ := Aside0.mk (blk_grown B4.out hg (Kd.R_ne HT.out B4.out (by decide))); have n1_ := Aside0.mk (blk_grown B6.out hg (Kd.R_ne HT.out B6.out (by decide))); have n2_ := Aside0.mk (Kd.R_over' HO.out (Kd.R_typed HT.out) (by decide) hg); have n3_ := Aside0.mk (Kd.R_over' HJ.out (Kd.R_typed HT.out) (by decide) hg); have n4_ := Aside0.mk (Nat.lt_of_lt_of_le LTr.out hg.size); have n5_ := Aside0.mk (rd_grown HR.out HT.out (by decide) hb hg); have n6_ := Aside0.mk ho; clear B4 B6 HO HJ LTr HR HT ho hb hg hat; have B4 := n0_; have B6 := n1_; have HO := n2_; have HJ := n3_; have LTr := n4_; have HR := n5_; have HT := n6_; clear n0_ n1_ n2_ n3_ n4_ n5_ n6_))
  go_roundw
  case rel =>
   refine ⟨k + 1, vk, by omega, by go_num, ?_, ⟨?_⟩, HJ, B4, B6, ⟨?_⟩, LTr⟩
   ·
    rw [map_snoc]
    exact HO.out
   ·
    rw [map_snoc]
    exact HT.out
   have h := HR.out
   rw [List.drop_drop] at h
   rw [all_snoc]
   exact h
  case measure => simp [intOf]; omega
 have hkt : ty = k := by omega
 subst hkt
 have cl : decide ((ty : Int) < (ty : Int)) = false := decide_eq_false (by omega)
 obtain ⟨A2, c2, rfl⟩ := Kd.R_slice HO.out
 have hl2 : ((List.range ty).map (kind0 (o1 8 ti) bs)).length = ty := by simp
 rw [hl2] at HO B6
 obtain ⟨A3, c3, rfl⟩ := Kd.R_slice HT.out
 have hl3 : ((List.range ty).map (kat (o1 8 ti) bs)).length = ty := by simp
 rw [hl3] at HT ⊢
 clear hl2 hl3 hlt hk
 have HE := Aside0.mk (show ch ≤ (bs.drop (o1 8 ti + 6 * ty)).length from (by have h1_ := HN.out; have h2_ := HL.out; rw [List.length_drop]; simp only [bodyN, o1, o2, o3, o4, o5] at h1_ ⊢; omega))
 have h6 : wr.cell? ⟨g4, 6, none⟩ = some (.int .i64 ch) := (blk_cell B4.out 6).trans rfl
 go_upto_region 23 with (go_at_call 38; (with_reducible refine (take_c HR.out ch HE.out).mono ?_); rintro e w20 ⟨A4, c4, rfl, hC4, hc4, hR1, hK1⟩; have n0_ := Aside0.mk (blk_kb (B4.out) hK1 NE4r.out); have n1_ := Aside0.mk (blk_kb (B6.out) hK1 NE6r.out); have n2_ := Aside0.mk (R_kb (HO.out) (HR.out) (by decide) hK1); have n3_ := Aside0.mk (R_kb (HJ.out) (HR.out) (by decide) hK1); have n4_ := Aside0.mk (R_kb (HT.out) (HR.out) (by decide) hK1); have n5_ := Aside0.mk (Nat.lt_of_lt_of_le LTr.out hK1.1); have n6_ := Aside0.mk hR1; clear B4 B6 HO HJ HT LTr HR hR1 hK1; have B4 := n0_; have B6 := n1_; have HO := n2_; have HJ := n3_; have HT := n4_; have LTr := n5_; have HR := n6_; clear n0_ n1_ n2_ n3_ n4_ n5_ n6_)
 obtain ⟨ns, hns⟩ : ∃ x, x = dNs 8 ti ty ch bs := ⟨_, rfl⟩
 have hnl : ns.length = ch := by
  rw [hns]
  unfold dNs o2
  have h := HE.out
  rw [List.length_take]
  omega
 have HC4 := Aside0.mk (show Kd.C (Kd.int .u8) w A4 ns.length ns by rw [hnl, hns]; exact hC4)
 have HNS := Aside0.mk hns
 have HNL := Aside0.mk hnl
 have HCC := Aside0.mk hc4
 rw [List.drop_drop] at HR
 rw [← kl_zero (o1 8 ti) ty ns bs] at HO
 have hok0 : (List.range ty).all (ktrue (o1 8 ti) bs) = ((List.range ty).all (ktrue (o1 8 ti) bs) && (List.range 0).all (kname (o1 8 ti) ns bs)) := by simp
 rw [hok0] at HR
 clear hC4 hc4 hns hnl HE hok0 h6 cl
 go_wp2
 go_loopw [101] (fun i wr => ∃ (k : Nat), k ≤ ty ∧ i = .int .i64 k ∧ Kd.R k56 56 wr w.heap.size (fun _ => True) (.slice A2 ty c2) (kl (o1 8 ti) ty ns bs k) ∧ Aside0 (Kd.R (Kd.int .i64) 3 wr w.heap.size (fun _ => True) (.slice A3 ty c3) ((List.range ty).map (kat (o1 8 ti) bs))) ∧ Aside0 (Kd.R k54 54 wr w.heap.size (fun _ => True) v1 (dJ 8 ti bs)) ∧ Aside0 (wr.heap[g4]? = some (.cells #[.int .i64 v, .int .i64 ut, .int .i64 sd, .int .i64 le, .int .i64 ti, .int .i64 ty, .int .i64 ch] 35 (0, 0))) ∧ Aside0 (wr.heap[g6]? = some (.cells #[.slice A2 ty c2, v1, .slice none 0 0, .slice none 0 0, .slice none 0 0] 27 (0, 0))) ∧ Aside0 (Rd w gr (bs.drop (o1 8 ti + 6 * ty + ch)) ((List.range ty).all (ktrue (o1 8 ti) bs) && (List.range k).all (kname (o1 8 ti) ns bs)) wr) ∧ Aside0 (gr < wr.heap.size)) (fun i _ => ty - (intOf i).toNat)
 case atStart => exact ⟨0, Nat.zero_le _, rfl, HO.out, HT, HJ, B4, B6, HR, LTr⟩
 clear B4 B6 HR LTr HJ HO HT
 obtain ⟨k, hk, rfl, hO, HT, HJ, B4, B6, HR, LTr⟩ := hrel
 have HO := Aside0.mk hO
 clear hO
 by_cases hlt : k < ty
 ·
  have cl : decide ((k : Int) < (ty : Int)) = true := decide_eq_true (by omega)
  have ck0 : decide (0 ≤ (k : Int)) = true := decide_eq_true (by omega)
  obtain ⟨ada, e1, hxa⟩ := Kd.at_int (Kd.R_reads' HT.out).2.2 (k : Int) (by omega) (by rw [List.length_map, List.length_range]; omega)
  subst e1
  rw [rdm _ ty k hlt] at hxa
  simp only [Int.toNat_natCast] at hxa
  obtain ⟨g, cap, hv, _, hg0, cells, hcells⟩ := Kd.R_form HO.out (by rw [kl_len]; omega)
  rw [kl_len] at hv
  injection hv with e1 _ e3
  subst e1
  subst e3
  have HNm := Aside0.mk (octets_Name.calls A4 c4 ns (kat (o1 8 ti) bs k) (nameI ns (kat (o1 8 ti) bs k)).1 (nameI ns (kat (o1 8 ti) bs k)).2 wr.drew (Kd.C_below HC4.out (rd_drew HR.out).2.1) (by rw [HNL.out]; exact HCC.out) (name_f ns (kat (o1 8 ti) bs k)))
  rw [HNL.out] at HNm
  have HKN := Aside0.mk (show kname (o1 8 ti) ns bs k = (nameI ns (kat (o1 8 ti) bs k)).2 from rfl)
  have HKS := Aside0.mk (kl_set (o1 8 ti) ty ns bs k hlt)
  obtain ⟨nm, hnm⟩ : ∃ x, x = nameI ns (kat (o1 8 ti) bs k) := ⟨_, rfl⟩
  rw [← hnm] at HNm HKN HKS
  clear hnm
  obtain ⟨nm, nok⟩ := nm
  go_upto_region 27 with fail
  clear hxa
  refine region_Z 99 (fun w' => w'.cell? ⟨g6, 0, none⟩ = some (.slice (some ⟨g, 0, none⟩) ty c2)) (by kernel_rfl) ?_
  refine zt 0 ((blk_cell B6.out 0).trans rfl) ?_; refine zt 1 ((blk_cell B6.out 0).trans rfl) ?_; refine zt 2 ((blk_cell B6.out 0).trans rfl) ?_; refine zt 3 ((blk_cell B6.out 0).trans rfl) ?_; refine zt 4 ((blk_cell B6.out 0).trans rfl) ?_
  (refine wpZ_one (i := 5) (by kernel_rfl) rfl (fun K_ hK_ => ?_); go_simp; go_wp2_with (first | (go_at_call 40; (with_reducible refine (HNm.out).mono ?_); rintro e w7 ⟨rfl, hb⟩; have n0_ := Aside0.mk (blk_below (blk_drew B4.out) hb); have n1_ := Aside0.mk (blk_below (blk_drew B6.out) hb); have n2_ := Aside0.mk (Kd.R_below (Kd.R_drew HO.out) hb); have n3_ := Aside0.mk (Kd.R_below (Kd.R_drew HJ.out) hb); have n4_ := Aside0.mk (Kd.R_below (Kd.R_drew HT.out) hb); have n5_ := Aside0.mk ((rd_drew HR.out).keep (below_step (rd_drew HR.out).2.1 hb) (hb.block gr LTr.out)); have n6_ := Aside0.mk (Nat.lt_of_lt_of_le LTr.out hb.size); clear B4 B6 HO HJ HT HR LTr hb; have B4 := n0_; have B6 := n1_; have HO := n2_; have HJ := n3_; have HT := n4_; have HR := n5_; have LTr := n6_; clear n0_ n1_ n2_ n3_ n4_ n5_ n6_)); refine hK_.out _ _ (fun _ => (blk_cell B6.out 0).trans rfl) ?_; clear hK_ K_; (try simp only [Act.put, List.setIfInBounds_toArray, List.set_cons_zero, List.set_cons_succ]))
  refine zt 6 ((blk_cell B6.out 0).trans rfl) ?_; refine zt 7 ((blk_cell B6.out 0).trans rfl) ?_; refine zt 8 ((blk_cell B6.out 0).trans rfl) ?_
  obtain ⟨HS1, HS2, ⟨u0, hz1⟩, hz2⟩ := kind_put HO.out k hlt nm
  have HS := Aside0.mk HS1
  have HG := Aside0.mk HS2
  clear HS1 HS2
  (refine wpZ_one (i := 9) (by kernel_rfl) rfl (fun K_ hK_ => ?_); go_simp; refine hK_.out _ _ (fun _ => (blk_cell B6.out 0).trans rfl) ?_; clear hK_ K_; (try simp only [Act.put, List.setIfInBounds_toArray, List.set_cons_zero, List.set_cons_succ]))
  (refine wpZ_one (i := 10) (by kernel_rfl) rfl (fun K_ hK_ => ?_); go_simp; refine hK_.out _ _ (fun _ => (blk_cell B6.out 0).trans rfl) ?_; clear hK_ K_; (try simp only [Act.put, List.setIfInBounds_toArray, List.set_cons_zero, List.set_cons_succ]))
  have hn6 : g6 ≠ g := fun e => Kd.R_ne HO.out B6.out (by decide) (by rw [e]; simp [Value.ownBlock])
  have hn4 : g4 ≠ g := fun e => Kd.R_ne HO.out B4.out (by decide) (by rw [e]; simp [Value.ownBlock])
  obtain ⟨cells7, hcells7⟩ := Kd.R_typed HO.out g (by simp [Value.ownBlock])
  have hge := Kd.R_base HO.out g (by simp [Value.ownBlock])
  have HC7 := Aside0.mk (And.intro hcells7 hge)
  clear hcells7 hge
  (refine wpZ_one (i := 11) (by kernel_rfl) rfl (fun K_ hK_ => ?_); go_simp; refine hK_.out _ _ (fun _ => (blk_cell (blk_far B6.out hn6 _) 0).trans rfl) ?_; clear hK_ K_; (try simp only [Act.put, List.setIfInBounds_toArray, List.set_cons_zero, List.set_cons_succ]))
  (refine wpZ_one (i := 12) (by kernel_rfl) rfl (fun K_ hK_ => ?_); go_simp; refine hK_.out _ _ (fun _ => (blk_cell (blk_far B6.out hn6 _) 0).trans rfl) ?_; clear hK_ K_; (try simp only [Act.put, List.setIfInBounds_toArray, List.set_cons_zero, List.set_cons_succ]))
  refine wpZ_done (by kernel_rfl) ?_ _
  clear hz1 hz2
  obtain ⟨w8, hw8⟩ : ∃ x, x = w7.setCell ⟨g, k * 3 + 2, none⟩ (.string nm) := ⟨_, rfl⟩
  have n1_ := Aside0.mk (blk_far (p := ⟨g, k * 3 + 2, none⟩) B4.out hn4 (.string nm))
  have n2_ := Aside0.mk (blk_far (p := ⟨g, k * 3 + 2, none⟩) B6.out hn6 (.string nm))
  have n3_ := Aside0.mk (rd_grow HR.out HG.out HC7.out.1 (by decide) HC7.out.2)
  have n4_ := Aside0.mk (Kd.R_over' HT.out (Kd.R_typed HO.out) (by decide) HG.out)
  have n5_ := Aside0.mk (Kd.R_over' HJ.out (Kd.R_typed HO.out) (by decide) HG.out)
  have n6_ := Aside0.mk (Nat.lt_of_lt_of_le LTr.out HG.out.size)
  rw [← hw8] at n1_ n2_ n3_ n4_ n5_ n6_ HS ⊢
  clear hw8 B4 B6 HR HT HJ LTr HO HG HC7 hn6 hn4 hcells
  have B4 := n1_
  have B6 := n2_
  have HR := n3_
  have HT := n4_
  have HJ := n5_
  have LTr := n6_
  clear n1_ n2_ n3_ n4_ n5_ n6_
  obtain ⟨okk, hokk⟩ : ∃ x, x = ((List.range ty).all (ktrue (o1 8 ti) bs) && (List.range k).all (kname (o1 8 ti) ns bs)) := ⟨_, rfl⟩
  rw [← hokk] at HR
  have HOKK := Aside0.mk hokk
  clear hokk
  obtain ⟨q1, q2, A5, c5, hblk, q3, q4⟩ := HR.out
  have hf1 := blk_frozen hblk 1
  have hc1 : w8.cell? ⟨gr, 1, none⟩ = some (.bool okk) := (blk_cell hblk 1).trans rfl
  have HQ := Aside0.mk (And.intro q1 (And.intro q2 (And.intro q3 q4)))
  have HBK := Aside0.mk hblk
  clear q1 q2 q3 q4 hblk HR
  cases okk
  all_goals
   go_wp2
   go_roundw
   case rel =>
    obtain ⟨q1, q2, q3, q4⟩ := HQ.out
    refine ⟨k + 1, by omega, by go_num, ?_, ⟨R_setb HT.out HBK.out (by decide) 1 _⟩, ⟨R_setb HJ.out HBK.out (by decide) 1 _⟩, ⟨blk_far B4.out NE4r.out _⟩, ⟨blk_far B6.out NE6r.out _⟩, ⟨⟨q1, below_set q2 q1, A5, c5, ?_, q3, q4⟩⟩, ⟨by rw [World.size_setCell]; exact LTr.out⟩⟩
    ·
     rw [← HKS.out]
     exact R_setb HS.out HBK.out (by decide) 1 _
    rw [all_snoc, ← Bool.and_assoc, ← HOKK.out, HKN.out]
    exact blk_put HBK.out 1 _ rfl
   case measure => simp [intOf]; omega
 have hkt : ty = k := by omega
 subst hkt
 have cl : decide ((ty : Int) < (ty : Int)) = false := decide_eq_false (by omega)
 rw [kl_all, HNS.out] at HO
 rw [HNS.out] at HR
 have hoff : o1 8 ti + 6 * ty + ch = o3 8 ti ty ch + (8 + 4) * 0 := by unfold o3 o2; omega
 rw [hoff] at HR
 have HK := Aside0.mk (show Kd.R k56 56 wr w.heap.size (fun _ => True) (.slice A2 ty c2) (dK 8 ti ty ch bs) from HO.out)
 obtain ⟨v0, hv0⟩ : ∃ x, x = Value.slice A2 ty c2 := ⟨_, rfl⟩
 rw [← hv0] at HK B6
 obtain ⟨okk, hokk⟩ : ∃ x, x = ((List.range ty).all (ktrue (o1 8 ti) bs) && (List.range ty).all (kname (o1 8 ti) (dNs 8 ti ty ch bs) bs)) := ⟨_, rfl⟩
 rw [← hokk] at HR
 have HOKK := Aside0.mk hokk
 have h3 : wr.cell? ⟨g4, 3, none⟩ = some (.int .i64 le) := (blk_cell B4.out 3).trans rfl
 clear hv0 hokk hoff HO HC4 HNS HNL HCC HT hlt hk
 go_wp2
 go_loopw [130] (fun i wr => ∃ (k : Nat) (v2 : Value), k ≤ le ∧ i = .int .i64 k ∧ Kd.R k67 67 wr w.heap.size (fun _ => True) v2 ((List.range k).map (leap1 8 (o3 8 ti ty ch) bs)) ∧ Aside0 (Kd.R k56 56 wr w.heap.size (fun _ => True) v0 (dK 8 ti ty ch bs)) ∧ Aside0 (Kd.R k54 54 wr w.heap.size (fun _ => True) v1 (dJ 8 ti bs)) ∧ Aside0 (wr.heap[g4]? = some (.cells #[.int .i64 v, .int .i64 ut, .int .i64 sd, .int .i64 le, .int .i64 ti, .int .i64 ty, .int .i64 ch] 35 (0, 0))) ∧ Aside0 (wr.heap[g6]? = some (.cells #[v0, v1, v2, .slice none 0 0, .slice none 0 0] 27 (0, 0))) ∧ Aside0 (Rd w gr (bs.drop (o3 8 ti ty ch + (8 + 4) * k)) okk wr) ∧ Aside0 (gr < wr.heap.size)) (fun i _ => le - (intOf i).toNat)
 case atStart => exact ⟨0, _, Nat.zero_le _, rfl, Kd.R_nil _ _ _ _ _, HK, HJ, B4, B6, HR, LTr⟩
 clear B4 B6 HR LTr HK HJ h3 cl
 obtain ⟨k, v2, hk, rfl, hO, HK, HJ, B4, B6, HR, LTr⟩ := hrel
 have HO := Aside0.mk hO
 clear hO
 by_cases hlt : k < le
 ·
  have cl : decide ((k : Int) < (le : Int)) = true := decide_eq_true (by omega)
  have HE := Aside0.mk (show 8 ≤ (bs.drop (o3 8 ti ty ch + (8 + 4) * k)).length from (by have h1_ := HN.out; have h2_ := HL.out; rw [List.length_drop]; simp only [bodyN, o1, o2, o3, o4, o5] at h1_ ⊢; omega))
  have HE2 := Aside0.mk (show 4 ≤ ((bs.drop (o3 8 ti ty ch + (8 + 4) * k)).drop 8).length from by rw [List.drop_drop]; exact (by have h1_ := HN.out; have h2_ := HL.out; rw [List.length_drop]; simp only [bodyN, o1, o2, o3, o4, o5] at h1_ ⊢; omega))
  go_upto_region 32 with fail
  refine region_Z 11 (fun w' => w'.cell? ⟨g6, 2, none⟩ = some v2) (by kernel_rfl) ?_
  refine zt 0 ((blk_cell B6.out 2).trans rfl) ?_; refine zt 1 ((blk_cell B6.out 2).trans rfl) ?_; refine zt 2 ((blk_cell B6.out 2).trans rfl) ?_; refine zt 3 ((blk_cell B6.out 2).trans rfl) ?_; refine zt 5 ((blk_cell B6.out 2).trans rfl) ?_
  (refine wpZ_one (i := 4) (by kernel_rfl) rfl (fun K_ hK_ => ?_); go_simp; go_wp2_with (first | (go_at_call 37; (with_reducible refine (number_8 (rd_drew HR.out) HE.out).mono ?_); rintro e w7 ⟨rfl, hR1, hK1⟩; have n0_ := Aside0.mk (blk_kb (blk_drew B4.out) hK1 NE4r.out); have n1_ := Aside0.mk (blk_kb (blk_drew B6.out) hK1 NE6r.out); have n2_ := Aside0.mk (R_kb (Kd.R_drew HO.out) (rd_drew HR.out) (by decide) hK1); have n3_ := Aside0.mk (R_kb (Kd.R_drew HJ.out) (rd_drew HR.out) (by decide) hK1); have n4_ := Aside0.mk (R_kb (Kd.R_drew HK.out) (rd_drew HR.out) (by decide) hK1); have n5_ := Aside0.mk (Nat.lt_of_lt_of_le LTr.out hK1.1); have n6_ := Aside0.mk hR1; clear B4 B6 HO HJ HK LTr HR hR1 hK1; have B4 := n0_; have B6 := n1_; have HO := n2_; have HJ := n3_; have HK := n4_; have LTr := n5_; have HR := n6_; clear n0_ n1_ n2_ n3_ n4_ n5_ n6_)); refine hK_.out _ _ (fun _ => (blk_cell B6.out 2).trans rfl) ?_; clear hK_ K_; (try simp only [Act.put, List.setIfInBounds_toArray, List.set_cons_zero, List.set_cons_succ]))
  (refine wpZ_one (i := 6) (by kernel_rfl) rfl (fun K_ hK_ => ?_); go_simp; go_wp2_with (first | (go_at_call 37; (with_reducible refine (number_4 HR.out HE2.out).mono ?_); rintro e w8 ⟨rfl, hR1, hK1⟩; have n0_ := Aside0.mk (blk_kb (B4.out) hK1 NE4r.out); have n1_ := Aside0.mk (blk_kb (B6.out) hK1 NE6r.out); have n2_ := Aside0.mk (R_kb (HO.out) (HR.out) (by decide) hK1); have n3_ := Aside0.mk (R_kb (HJ.out) (HR.out) (by decide) hK1); have n4_ := Aside0.mk (R_kb (HK.out) (HR.out) (by decide) hK1); have n5_ := Aside0.mk (Nat.lt_of_lt_of_le LTr.out hK1.1); have n6_ := Aside0.mk hR1; clear B4 B6 HO HJ HK LTr HR hR1 hK1; have B4 := n0_; have B6 := n1_; have HO := n2_; have HJ := n3_; have HK := n4_; have LTr := n5_; have HR := n6_; clear n0_ n1_ n2_ n3_ n4_ n5_ n6_)); refine hK_.out _ _ (fun _ => (blk_cell B6.out 2).trans rfl) ?_; clear hK_ K_; (try simp only [Act.put, List.setIfInBounds_toArray, List.set_cons_zero, List.set_cons_succ]))
  refine zt 7 ((blk_cell B6.out 2).trans rfl) ?_
  (refine wpZ_one (i := 8) (by kernel_rfl) rfl (fun K_ hK_ => ?_); go_simp; refine hK_.out _ _ (fun _ => (blk_cell (blk_alloc B6.out _) 2).trans rfl) ?_; clear hK_ K_; (try simp only [Act.put, List.setIfInBounds_toArray, List.set_cons_zero, List.set_cons_succ]))
  simp only [List.drop_drop] at HR
  (refine wpZ_one (i := 9) (by kernel_rfl) rfl (fun K_ hK_ => ?_); refine Kd.R_append_step k67 (w0 := w8) w.heap.size rfl (.tmp 133) (.tmp 140) 24 67 (.agg #[.int .i64 0, .int .i64 0]) 16 rfl Try.underlying24 info_leap rfl (by decide) (by omega) v2 ((List.range k).map (leap1 8 (o3 8 ti ty ch) bs)) (leap1 8 (o3 8 ti ty ch) bs k) [.int .i64 (numU 8 (bs.drop (o3 8 ti ty ch + (8 + 4) * k))), .int .i64 (numU 4 (bs.drop (o3 8 ti ty ch + (8 + 4) * k + 8)))] (fun _ => True) (fun _ => False) rfl rfl (k67_mkM _ _ _ (leap1 8 (o3 8 ti ty ch) bs k)) (fun _ h => h.elim) (fun _ _ => trivial) HO.out (Below.refl _ _) (Nat.le_of_lt (Nat.lt_of_le_of_lt HR.out.1 LTr.out)) (by simp only [List.length_map, List.length_range]; omega) ?_; intro v7 w9 ho hb hg hat; have n0_ := Aside0.mk (blk_grown B4.out hg (Kd.R_ne HO.out B4.out (by decide))); have n1_ := Aside0.mk (blk_grown B6.out hg (Kd.R_ne HO.out B6.out (by decide))); have n2_ := Aside0.mk (Kd.R_over' HJ.out (Kd.R_typed HO.out) (by decide) hg); have n3_ := Aside0.mk (Kd.R_over' HK.out (Kd.R_typed HO.out) (by decide) hg); have n4_ := Aside0.mk (Nat.lt_of_lt_of_le LTr.out hg.size); have n5_ := Aside0.mk (rd_grown HR.out HO.out (by decide) hb hg); have n6_ := Aside0.mk ho; clear B4 B6 HJ HK LTr HR HO ho hb hg hat; have B4 := n0_; have B6 := n1_; have HJ := n2_; have HK := n3_; have LTr := n4_; have HR := n5_; have HO := n6_; clear n0_ n1_ n2_ n3_ n4_ n5_ n6_; refine hK_.out _ _ (fun _ => (blk_cell B6.out 2).trans rfl) ?_; clear hK_ K_; (try simp only [Act.put, List.setIfInBounds_toArray, List.set_cons_zero, List.set_cons_succ]))
  obtain ⟨A7, c7, rfl⟩ := Kd.R_slice HO.out
  refine zt 10 ((blk_cell B6.out 2).trans rfl) ?_
  have z1 : w9.cell? ⟨g6, 2, none⟩ = some v2 := (blk_cell B6.out 2).trans rfl
  have z2 := blk_frozen B6.out 2
  (refine wpZ_one (i := 11) (by kernel_rfl) rfl (fun K_ hK_ => ?_); go_simp; refine hK_.out _ _ (fun h => absurd rfl h) ?_; clear hK_ K_; (try simp only [Act.put, List.setIfInBounds_toArray, List.set_cons_zero, List.set_cons_succ]))
  refine wpZ_done (by kernel_rfl) ?_ _
  clear z1 z2
  go_wp2
  go_roundw
  case rel =>
   refine ⟨k + 1, _, by omega, by go_num, ?_, ⟨Kd.R_set HK.out B6.out (by decide) 2 _⟩, ⟨Kd.R_set HJ.out B6.out (by decide) 2 _⟩, ⟨blk_far B4.out NE46.out _⟩, ⟨blk_put B6.out 2 _ rfl⟩, ⟨?_⟩, ⟨by rw [World.size_setCell]; exact LTr.out⟩⟩
   ·
    rw [map_snoc]
    have h := Kd.R_set HO.out B6.out (by decide) 2
    first | exact h _ | (simp only [List.length_append, List.length_map, List.length_range, List.length_cons, List.length_nil] at h ⊢; exact h _)
   have h := rd_set HR.out NE6r.out GEg6.out 2
   exact (show o3 8 ti ty ch + (8 + 4) * k + 8 + 4 = o3 8 ti ty ch + (8 + 4) * (k + 1) by omega) ▸ h _
  case measure => simp [intOf]; omega
 have hkt : le = k := by omega
 subst hkt
 have cl : decide ((le : Int) < (le : Int)) = false := decide_eq_false (by omega)
 have hoff : o3 8 ti ty ch + (8 + 4) * le = o4 8 le ti ty ch := by unfold o4; rfl
 rw [hoff] at HR
 have HLp := Aside0.mk (show Kd.R k67 67 wr w.heap.size (fun _ => True) v2 (dL 8 le ti ty ch bs) from HO.out)
 clear hoff HO hlt hk
 have h2 : wr.cell? ⟨g4, 2, none⟩ = some (.int .i64 sd) := (blk_cell B4.out 2).trans rfl
 have HE := Aside0.mk (show sd ≤ (bs.drop (o4 8 le ti ty ch)).length from (by have h1_ := HN.out; have h2_ := HL.out; rw [List.length_drop]; simp only [bodyN, o1, o2, o3, o4, o5] at h1_ ⊢; omega))
 have HLE := Aside0.mk (show w.heap.size ≤ wr.heap.size from Nat.le_of_lt (Nat.lt_of_le_of_lt HR.out.1 LTr.out))
 have HSD := Aside0.mk (show sd ≤ 1000000 by omega)
 have HUT := Aside0.mk (show ut ≤ 1000000 by omega)
 have HENC := Aside0.mk (encOK_d 8 ut sd le ti ty ch bs hbd)
 go_upto_region 35 with (go_at_call 41; (with_reducible refine (marks_c HR.out LTr.out sd HE.out HSD.out).mono ?_); rintro e w21 ⟨v3, rfl, hS, hR1, hK1⟩; replace hS := (show Kd.R Kd.bool 4 w21 wr.heap.size (fun _ => True) v3 (isOne (dS 8 sd le ti ty ch bs)) from hS); obtain ⟨A8, c8, rfl⟩ := Kd.R_slice hS; have n0_ := Aside0.mk (blk_kb (B4.out) hK1 NE4r.out); have n1_ := Aside0.mk (blk_kb (B6.out) hK1 NE6r.out); have n2_ := Aside0.mk (R_kb (HK.out) (HR.out) (by decide) hK1); have n3_ := Aside0.mk (R_kb (HJ.out) (HR.out) (by decide) hK1); have n4_ := Aside0.mk (R_kb (HLp.out) (HR.out) (by decide) hK1); have n5_ := Aside0.mk (Nat.lt_of_lt_of_le LTr.out hK1.1); have n6_ := Aside0.mk hR1; clear B4 B6 HK HJ HLp LTr HR hR1 hK1; have B4 := n0_; have B6 := n1_; have HK := n2_; have HJ := n3_; have HLp := n4_; have LTr := n5_; have HR := n6_; clear n0_ n1_ n2_ n3_ n4_ n5_ n6_; have HS := Aside0.mk (Kd.R_lower hS HLE.out); clear hS; have z1 : w21.cell? ⟨g6, 3, none⟩ = some (.slice none 0 0) := (blk_cell B6.out 3).trans rfl; have z2 := blk_frozen B6.out 3)
 clear z1 z2 h2 HE HLE
 have n0_ := Aside0.mk (show (w21.setCell ⟨g6, 3, none⟩ (.slice A8 (isOne (dS 8 sd le ti ty ch bs)).length c8)).heap[g4]? = _ from blk_far B4.out NE46.out _); have n1_ := Aside0.mk (show (w21.setCell ⟨g6, 3, none⟩ (.slice A8 (isOne (dS 8 sd le ti ty ch bs)).length c8)).heap[g6]? = some (.cells #[v0, v1, v2, .slice A8 (isOne (dS 8 sd le ti ty ch bs)).length c8, .slice none 0 0] 27 (0, 0)) from blk_put B6.out 3 _ rfl); have n2_ := Aside0.mk (Kd.R_set HK.out B6.out (by decide) 3 (.slice A8 (isOne (dS 8 sd le ti ty ch bs)).length c8)); have n3_ := Aside0.mk (Kd.R_set HJ.out B6.out (by decide) 3 (.slice A8 (isOne (dS 8 sd le ti ty ch bs)).length c8)); have n4_ := Aside0.mk (Kd.R_set HLp.out B6.out (by decide) 3 (.slice A8 (isOne (dS 8 sd le ti ty ch bs)).length c8)); have n5_ := Aside0.mk (Kd.R_set HS.out B6.out (by decide) 3 (.slice A8 (isOne (dS 8 sd le ti ty ch bs)).length c8)); have n6_ := Aside0.mk (rd_set HR.out NE6r.out GEg6.out 3 (.slice A8 (isOne (dS 8 sd le ti ty ch bs)).length c8)); have n7_ := Aside0.mk (show gr < (w21.setCell ⟨g6, 3, none⟩ (.slice A8 (isOne (dS 8 sd le ti ty ch bs)).length c8)).heap.size by rw [World.size_setCell]; exact LTr.out); clear B4 B6 HK HJ HLp HS HR LTr; obtain ⟨w22, hwc_⟩ : ∃ x, x = (w21.setCell ⟨g6, 3, none⟩ (.slice A8 (isOne (dS 8 sd le ti ty ch bs)).length c8)) := ⟨_, rfl⟩; rw [← hwc_] at n0_ n1_ n2_ n3_ n4_ n5_ n6_ n7_ ⊢; clear hwc_; have B4 := n0_; have B6 := n1_; have HK := n2_; have HJ := n3_; have HLp := n4_; have HS := n5_; have HR := n6_; have LTr := n7_; clear n0_ n1_ n2_ n3_ n4_ n5_ n6_ n7_
 obtain ⟨N, hN⟩ : ∃ x, x = w22.heap.size := ⟨_, rfl⟩
 have HS2 := Aside0.mk (show Kd.R Kd.bool 4 w22 w.heap.size (fun k => k < N) (.slice A8 (isOne (dS 8 sd le ti ty ch bs)).length c8) (isOne (dS 8 sd le ti ty ch bs)) from Kd.R_mono (Kd.R_bound HS.out) (fun k hk => by rw [hN]; exact hk.2.2.1))
 have HNN := Aside0.mk hN
 clear HS hN
 rw [show o4 8 le ti ty ch = o4 8 le ti ty ch + 0 from rfl, List.drop_drop] at HR
 have h1 : w22.cell? ⟨g4, 1, none⟩ = some (.int .i64 ut) := (blk_cell B4.out 1).trans rfl
 have HR2 := Aside0.mk (show Rd w gr (bs.drop (o5 8 sd le ti ty ch)) (okk && allB (dS 8 sd le ti ty ch bs)) w22 from HR.out)
 clear HR
 have HR := HR2
 clear HR2
 have HE := Aside0.mk (show ut ≤ (bs.drop (o5 8 sd le ti ty ch)).length from (by have h1_ := HN.out; have h2_ := HL.out; rw [List.length_drop]; simp only [bodyN, o1, o2, o3, o4, o5] at h1_ ⊢; omega))
 have HLE := Aside0.mk (show w.heap.size ≤ w22.heap.size from Nat.le_of_lt (Nat.lt_of_le_of_lt HR.out.1 LTr.out))
 go_upto_region 36 with (go_at_call 41; (with_reducible refine (marks_c HR.out LTr.out ut HE.out HUT.out).mono ?_); rintro e w23 ⟨v4, rfl, hS, hR1, hK1⟩; replace hS := (show Kd.R Kd.bool 4 w23 w22.heap.size (fun _ => True) v4 (isOne (dU 8 ut sd le ti ty ch bs)) from hS); obtain ⟨A9, c9, rfl⟩ := Kd.R_slice hS; have n0_ := Aside0.mk (blk_kb (B4.out) hK1 NE4r.out); have n1_ := Aside0.mk (blk_kb (B6.out) hK1 NE6r.out); have n2_ := Aside0.mk (R_kb (HK.out) (HR.out) (by decide) hK1); have n3_ := Aside0.mk (R_kb (HJ.out) (HR.out) (by decide) hK1); have n4_ := Aside0.mk (R_kb (HLp.out) (HR.out) (by decide) hK1); have n5_ := Aside0.mk (R_kb (HS2.out) (HR.out) (by decide) hK1); have n6_ := Aside0.mk (Nat.lt_of_lt_of_le LTr.out hK1.1); have n7_ := Aside0.mk hR1; clear B4 B6 HK HJ HLp HS2 LTr HR hR1 hK1; have B4 := n0_; have B6 := n1_; have HK := n2_; have HJ := n3_; have HLp := n4_; have HS2 := n5_; have LTr := n6_; have HR := n7_; clear n0_ n1_ n2_ n3_ n4_ n5_ n6_ n7_; have HU := Aside0.mk (show Kd.R Kd.bool 4 w23 w.heap.size (fun k => N ≤ k) _ _ from Kd.R_lower (Kd.R_mono (Kd.R_bound hS) (fun k hk => by rw [HNN.out]; exact hk.2.1)) HLE.out); clear hS; have z1 : w23.cell? ⟨g6, 4, none⟩ = some (.slice none 0 0) := (blk_cell B6.out 4).trans rfl; have z2 := blk_frozen B6.out 4)
 clear z1 z2 h1 HE HLE HNN
 have n0_ := Aside0.mk (show (w23.setCell ⟨g6, 4, none⟩ (.slice A9 (isOne (dU 8 ut sd le ti ty ch bs)).length c9)).heap[g4]? = _ from blk_far B4.out NE46.out _); have n1_ := Aside0.mk (show (w23.setCell ⟨g6, 4, none⟩ (.slice A9 (isOne (dU 8 ut sd le ti ty ch bs)).length c9)).heap[g6]? = some (.cells #[v0, v1, v2, .slice A8 (isOne (dS 8 sd le ti ty ch bs)).length c8, .slice A9 (isOne (dU 8 ut sd le ti ty ch bs)).length c9] 27 (0, 0)) from blk_put B6.out 4 _ rfl); have n2_ := Aside0.mk (Kd.R_set HK.out B6.out (by decide) 4 (.slice A9 (isOne (dU 8 ut sd le ti ty ch bs)).length c9)); have n3_ := Aside0.mk (Kd.R_set HJ.out B6.out (by decide) 4 (.slice A9 (isOne (dU 8 ut sd le ti ty ch bs)).length c9)); have n4_ := Aside0.mk (Kd.R_set HLp.out B6.out (by decide) 4 (.slice A9 (isOne (dU 8 ut sd le ti ty ch bs)).length c9)); have n5_ := Aside0.mk (Kd.R_set HS2.out B6.out (by decide) 4 (.slice A9 (isOne (dU 8 ut sd le ti ty ch bs)).length c9)); have n6_ := Aside0.mk (Kd.R_set HU.out B6.out (by decide) 4 (.slice A9 (isOne (dU 8 ut sd le ti ty ch bs)).length c9)); have n7_ := Aside0.mk (rd_set HR.out NE6r.out GEg6.out 4 (.slice A9 (isOne (dU 8 ut sd le ti ty ch bs)).length c9)); have n8_ := Aside0.mk (show gr < (w23.setCell ⟨g6, 4, none⟩ (.slice A9 (isOne (dU 8 ut sd le ti ty ch bs)).length c9)).heap.size by rw [World.size_setCell]; exact LTr.out); clear B4 B6 HK HJ HLp HS2 HU HR LTr; obtain ⟨w24, hwc_⟩ : ∃ x, x = (w23.setCell ⟨g6, 4, none⟩ (.slice A9 (isOne (dU 8 ut sd le ti ty ch bs)).length c9)) := ⟨_, rfl⟩; rw [← hwc_] at n0_ n1_ n2_ n3_ n4_ n5_ n6_ n7_ n8_ ⊢; clear hwc_; have B4 := n0_; have B6 := n1_; have HK := n2_; have HJ := n3_; have HLp := n4_; have HS2 := n5_; have HU := n6_; have HR := n7_; have LTr := n8_; clear n0_ n1_ n2_ n3_ n4_ n5_ n6_ n7_ n8_
 have HRP := Aside0.mk (show Rd w gr ((bs.drop (o5 8 sd le ti ty ch)).drop ut) (dOK 8 ut sd le ti ty ch bs) w24 from by have h := HR.out; rw [HOKK.out] at h; exact h)
 clear HR HOKK cl
 obtain ⟨p, hp⟩ : ∃ x, x = dOK 8 ut sd le ti ty ch bs := ⟨_, rfl⟩
 obtain ⟨q, hq⟩ : ∃ x, x = dRight 8 v ut sd le ti ty ch bs := ⟨_, rfl⟩
 have HFF := Aside0.mk (HF.out p q hp.symm hq.symm)
 rw [← hp] at HRP
 obtain ⟨A10, c10, e10, hl10, hC10⟩ := Kd.R_reads HK.out
 obtain ⟨A11, c11, e11, hl11, hC11⟩ := Kd.R_reads HJ.out
 obtain ⟨A12, c12, e12, hl12, hC12⟩ := Kd.R_reads HLp.out
 subst e10 e11 e12
 have HCR := Aside0.mk (Stub.block_Right.calls A10 c10 (dK 8 ti ty ch bs) A11 c11 (dJ 8 ti bs) A12 c12 (dL 8 le ti ty ch bs) A8 c8 (isOne (dS 8 sd le ti ty ch bs)) A9 c9 (isOne (dU 8 ut sd le ti ty ch bs)) 8 v q w24 hC10 hl10 hC11 hl11 hC12 hl12 (Kd.R_reads' HS2.out).2.2 (Kd.R_reads' HS2.out).2.1 (Kd.R_reads' HU.out).2.2 (Kd.R_reads' HU.out).2.1 (by unfold Stub.block_Right.f; rw [if_pos HENC.out, hq]; rfl))
 clear hp hq hl10 hl11 hl12 hC10 hC11 hC12 HF HENC HSD HUT
 obtain ⟨r1, r2, A5, c5, hblk, r3, r4⟩ := HRP.out
 have hc1 : w24.cell? ⟨gr, 1, none⟩ = some (.bool p) := (blk_cell hblk 1).trans rfl
 have HBL := Aside0.mk r2
 clear r1 r2 r3 r4 hblk HRP HL HN
 have s0 : w24.cell? ⟨g6, 0, none⟩ = some (.slice A10 (dK 8 ti ty ch bs).length c10) := (blk_cell B6.out 0).trans rfl
 have s1 : w24.cell? ⟨g6, 1, none⟩ = some (.slice A11 (dJ 8 ti bs).length c11) := (blk_cell B6.out 1).trans rfl
 have s2 : w24.cell? ⟨g6, 2, none⟩ = some (.slice A12 (dL 8 le ti ty ch bs).length c12) := (blk_cell B6.out 2).trans rfl
 have s3 : w24.cell? ⟨g6, 3, none⟩ = some (.slice A8 (isOne (dS 8 sd le ti ty ch bs)).length c8) := (blk_cell B6.out 3).trans rfl
 have s4 : w24.cell? ⟨g6, 4, none⟩ = some (.slice A9 (isOne (dU 8 ut sd le ti ty ch bs)).length c9) := (blk_cell B6.out 4).trans rfl
 have y0 := blk_frozen B6.out 0
 have y1 := blk_frozen B6.out 1
 have y2 := blk_frozen B6.out 2
 have y3 := blk_frozen B6.out 3
 have y4 := blk_frozen B6.out 4
 have x0 : w24.cell? ⟨g4, 0, none⟩ = some (.int .i64 v) := (blk_cell B4.out 0).trans rfl
 cases p
 ·
  clear HCR x0
  go_wp2
  refine bodyPost_ret (results_ct rfl _ _ g6 27 _ (0, 0) _ rfl (put5_at B6.out) Try.underlying27 rfl (by kernel_rfl)) rfl ?_
  exact ⟨_, _, _, _, _, [], [], [], [], [], 4, HFF.out, rfl, Kd.R_nil _ _ _ _ _, Kd.R_nil _ _ _ _ _, Kd.R_nil _ _ _ _ _, Kd.R_nil _ _ _ _ _, Kd.R_nil _ _ _ _ _, put5_below HBL.out GEg6.out⟩
 cases q
 ·
  go_upto_region 37 with (go_at_call 16; (with_reducible refine (HCR.out).mono ?_); rintro e w25 ⟨rfl, hb⟩; have n1_ := Aside0.mk (blk_below B6.out hb); have n2_ := Aside0.mk (Kd.R_below HK.out hb); have n3_ := Aside0.mk (Kd.R_below HJ.out hb); have n4_ := Aside0.mk (Kd.R_below HLp.out hb); have n5_ := Aside0.mk (Kd.R_below HS2.out hb); have n6_ := Aside0.mk (Kd.R_below HU.out hb); have n7_ := Aside0.mk (below_step HBL.out hb); clear B6 HK HJ HLp HS2 HU HBL B4 hb; have B6 := n1_; have HK := n2_; have HJ := n3_; have HLp := n4_; have HS2 := n5_; have HU := n6_; have HBL := n7_; clear n1_ n2_ n3_ n4_ n5_ n6_ n7_; have t0 : w25.cell? ⟨g6, 0, none⟩ = some (.slice A10 (dK 8 ti ty ch bs).length c10) := (blk_cell B6.out 0).trans rfl; have u0 := blk_frozen B6.out 0; have t1 : w25.cell? ⟨g6, 1, none⟩ = some (.slice A11 (dJ 8 ti bs).length c11) := (blk_cell B6.out 1).trans rfl; have u1 := blk_frozen B6.out 1; have t2 : w25.cell? ⟨g6, 2, none⟩ = some (.slice A12 (dL 8 le ti ty ch bs).length c12) := (blk_cell B6.out 2).trans rfl; have u2 := blk_frozen B6.out 2; have t3 : w25.cell? ⟨g6, 3, none⟩ = some (.slice A8 (isOne (dS 8 sd le ti ty ch bs)).length c8) := (blk_cell B6.out 3).trans rfl; have u3 := blk_frozen B6.out 3; have t4 : w25.cell? ⟨g6, 4, none⟩ = some (.slice A9 (isOne (dU 8 ut sd le ti ty ch bs)).length c9) := (blk_cell B6.out 4).trans rfl; have u4 := blk_frozen B6.out 4)
  go_wp2
  refine bodyPost_ret (results_ct rfl _ _ g6 27 _ (0, 0) _ rfl (put5_at B6.out) Try.underlying27 rfl (by kernel_rfl)) rfl ?_
  exact ⟨_, _, _, _, _, [], [], [], [], [], 4, HFF.out, rfl, Kd.R_nil _ _ _ _ _, Kd.R_nil _ _ _ _ _, Kd.R_nil _ _ _ _ _, Kd.R_nil _ _ _ _ _, Kd.R_nil _ _ _ _ _, put5_below HBL.out GEg6.out⟩
 go_upto_region 38 with (go_at_call 16; (with_reducible refine (HCR.out).mono ?_); rintro e w25 ⟨rfl, hb⟩; have n1_ := Aside0.mk (blk_below B6.out hb); have n2_ := Aside0.mk (Kd.R_below HK.out hb); have n3_ := Aside0.mk (Kd.R_below HJ.out hb); have n4_ := Aside0.mk (Kd.R_below HLp.out hb); have n5_ := Aside0.mk (Kd.R_below HS2.out hb); have n6_ := Aside0.mk (Kd.R_below HU.out hb); have n7_ := Aside0.mk (below_step HBL.out hb); clear B6 HK HJ HLp HS2 HU HBL B4 hb; have B6 := n1_; have HK := n2_; have HJ := n3_; have HLp := n4_; have HS2 := n5_; have HU := n6_; have HBL := n7_; clear n1_ n2_ n3_ n4_ n5_ n6_ n7_; have t0 : w25.cell? ⟨g6, 0, none⟩ = some (.slice A10 (dK 8 ti ty ch bs).length c10) := (blk_cell B6.out 0).trans rfl; have u0 := blk_frozen B6.out 0; have t1 : w25.cell? ⟨g6, 1, none⟩ = some (.slice A11 (dJ 8 ti bs).length c11) := (blk_cell B6.out 1).trans rfl; have u1 := blk_frozen B6.out 1; have t2 : w25.cell? ⟨g6, 2, none⟩ = some (.slice A12 (dL 8 le ti ty ch bs).length c12) := (blk_cell B6.out 2).trans rfl; have u2 := blk_frozen B6.out 2; have t3 : w25.cell? ⟨g6, 3, none⟩ = some (.slice A8 (isOne (dS 8 sd le ti ty ch bs)).length c8) := (blk_cell B6.out 3).trans rfl; have u3 := blk_frozen B6.out 3; have t4 : w25.cell? ⟨g6, 4, none⟩ = some (.slice A9 (isOne (dU 8 ut sd le ti ty ch bs)).length c9) := (blk_cell B6.out 4).trans rfl; have u4 := blk_frozen B6.out 4)
 go_wp2
 refine bodyPost_ret (results_ct rfl _ _ g6 27 _ (0, 0) _ rfl (put5_at B6.out) Try.underlying27 rfl (by kernel_rfl)) rfl ?_
 exact ⟨_, _, _, _, _, _, _, _, _, _, 0, HFF.out, rfl, put5_R HK.out B6.out (by decide), put5_R HJ.out B6.out (by decide), put5_R HLp.out B6.out (by decide), Kd.R_mono (put5_R HS2.out B6.out (by decide)) (fun k hk e => by have h := HU.out.1 k e.symm; omega), Kd.R_mono (put5_R HU.out B6.out (by decide)) (fun k hk e => by have h := HS2.out.1 k e.symm; omega), put5_below HBL.out GEg6.out⟩
end Go.Proofs.Ythobnoknbdljgaa.Hand
end
section
namespace Go.Proofs.Ythobnoknbdljgaa.Hand
open Go.RowKit Go.Proofs.YthobnoknbdljgaaW.PrintWords Go.Proofs.YthobnoknbdljgaaW.PrintLast Go.Proofs.YthobnoknbdljgaaW.PrintMore PB0
set_option linter.unusedVariables false
set_option linter.unusedSimpArgs false
set_option maxHeartbeats 4000000 in
set_option maxRecDepth 100000 in
theorem decode_no (A0 : Option Addr) (c0 n : Nat) (v ut sd le ti ty ch a2 : Int) (w : World) (hno : ¬ ((a2 = 4 ∨ a2 = 8) ∧ rightP v ut sd le ti ty ch)) :
  Calls Try.prog 21 #[.slice A0 n c0, .agg #[.int .i64 v, .int .i64 ut, .int .i64 sd, .int .i64 le, .int .i64 ti, .int .i64 ty, .int .i64 ch], .int .i64 a2] w fun e w' => e = .returned (.tuple #[.agg #[.slice none 0 0, .slice none 0 0, .slice none 0 0, .slice none 0 0, .slice none 0 0], .int .i64 1]) ∧ Below w.heap.size w w' := by
 have hu27 := Try.underlying27
 have hu35 := Try.underlying35
 have HB := Aside0.mk (Below.refl w.heap.size w)
 have HP := Aside0.mk (show PB0.header_Right.f v ut sd le ti ty ch = some (decide (rightP v ut sd le ti ty ch)) from hright_f ..)
 rcases (show (((a2 == 4) = false ∧ (a2 != 4) = true) ∧ ((a2 == 8) = false ∧ (a2 != 8) = true)) ∨ (((a2 == 4) = true ∧ (a2 != 4) = false) ∧ decide (rightP v ut sd le ti ty ch) = false) ∨ (((a2 == 4) = false ∧ (a2 != 4) = true) ∧ ((a2 == 8) = true ∧ (a2 != 8) = false) ∧ decide (rightP v ut sd le ti ty ch) = false) by
  by_cases c1 : a2 = 4
  ·
   subst c1
   exact .inr (.inl ⟨by decide, decide_eq_false (fun h => hno ⟨.inl rfl, h⟩)⟩)
  ·
   have d1 : ((a2 == 4) = false ∧ (a2 != 4) = true) := ⟨by simpa using c1, by simpa using c1⟩
   by_cases c2 : a2 = 8
   ·
    subst c2
    exact .inr (.inr ⟨d1, by decide, decide_eq_false (fun h => hno ⟨.inr rfl, h⟩)⟩)
   ·
    exact .inl ⟨d1, ⟨by simpa using c2, by simpa using c2⟩⟩) with ⟨⟨c1, c2⟩, c3, c4⟩ | ⟨⟨c1, c2⟩, c5⟩ | ⟨⟨c1, c2⟩, ⟨c3, c4⟩, c5⟩
 all_goals
  try rw [c5] at HP
  clear hno
  go_enter Try.func21, Try.ntmps21
  go_upto_region 2 with (first
   | ((with_reducible refine gate_dst (N := 4) rfl ?_); refine box_event ?hg (N := 4) ?hd (cs := #[.int .i64 v, .int .i64 ut, .int .i64 sd, .int .i64 le, .int .i64 ti, .int .i64 ty, .int .i64 ch]) (t := 35) ?hr ?_; (case hd => rfl); (case hg => rfl); (case hr => first | (go_simp; done) | (go_simp; rfl)); intro g4 hg w1 hbox hb; have Bg4 := Aside0.mk hbox; have GEg4 := Aside0.mk (show w.heap.size ≤ g4 by first | omega | (have h_ := below_size HB.out; omega)); clear hbox hg; have n0_ := Aside0.mk (below_step HB.out hb); clear HB; have HB := n0_; clear n0_ hb; obtain ⟨s0, s1, s2, s3, s4, s5, s6⟩ := Sq.c7 Bg4)
   | ((with_reducible refine gate_dst (N := 6) rfl ?_); refine box_event ?hg (N := 6) ?hd (cs := #[.slice none 0 0, .slice none 0 0, .slice none 0 0, .slice none 0 0, .slice none 0 0]) (t := 27) ?hr ?_; (case hd => rfl); (case hg => rfl); (case hr => first | (go_simp; done) | (go_simp; rfl)); intro g6 hg w2 hbox hb; have Bg6 := Aside0.mk hbox; have GEg6 := Aside0.mk (show w.heap.size ≤ g6 by first | omega | (have h_ := below_size HB.out; omega)); have NE46 := Aside0.mk (show g4 ≠ g6 by have := blk_lt Bg4.out; omega); clear hbox hg; have n0_ := Aside0.mk (blk_below Bg4.out hb); have n1_ := Aside0.mk (below_step HB.out hb); clear Bg4 HB; have Bg4 := n0_; have HB := n1_; clear n0_ n1_ hb; obtain ⟨t0, t1, t2, t3, t4, t5, t6⟩ := Sq.c7 Bg4)
   | (go_at_call 19; (with_reducible refine (PB0.header_Right.calls v ut sd le ti ty ch false _ HP.out).mono ?_); rintro e w3 ⟨rfl, hb⟩; have n0_ := Aside0.mk (blk_below Bg6.out hb); have n1_ := Aside0.mk (below_step HB.out hb); clear Bg6 HB; have Bg6 := n0_; have HB := n1_; clear n0_ n1_ hb))
  refine forget_wp (fun wc => Aside0 (wc.heap[g6]? = some (.cells #[.slice none 0 0, .slice none 0 0, .slice none 0 0, .slice none 0 0, .slice none 0 0] 27 (0, 0))) ∧ Aside0 (Below w.heap.size w wc)) ⟨Bg6, HB⟩ ?_
  clear Bg4 Bg6 HB HP s0 s1 s2 s3 s4 s5 s6 t0 t1 t2 t3 t4 t5 t6
  rintro w6 ⟨B6, HB⟩
  obtain ⟨z0, z1, z2, z3, z4⟩ := Sq.c5 B6
  have y0 := blk_frozen B6.out 0; have y1 := blk_frozen B6.out 1; have y2 := blk_frozen B6.out 2; have y3 := blk_frozen B6.out 3; have y4 := blk_frozen B6.out 4
  go_wp2
  refine bodyPost_ret (results_ct rfl _ _ g6 27 _ (0, 0) _ rfl (put5_at B6.out) Try.underlying27 rfl (by kernel_rfl)) rfl ?_
  exact ⟨rfl, put5_below HB.out GEg6.out⟩
set_option maxHeartbeats 4000000 in
set_option maxRecDepth 100000 in
theorem decode_short (A0 : Option Addr) (c0 n : Nat) (v : Int) (ut sd le ti ty ch : Nat) (a2 : Int) (m : Nat) (ha : a2 = (m : Int)) (hm : m = 4 ∨ m = 8) (w : World) (hp : rightP v ut sd le ti ty ch) (hl : n < bodyN m ut sd le ti ty ch) :
  Calls Try.prog 21 #[.slice A0 n c0, .agg #[.int .i64 v, .int .i64 ut, .int .i64 sd, .int .i64 le, .int .i64 ti, .int .i64 ty, .int .i64 ch], .int .i64 a2] w fun e w' => e = .returned (.tuple #[.agg #[.slice none 0 0, .slice none 0 0, .slice none 0 0, .slice none 0 0, .slice none 0 0], .int .i64 5]) ∧ Below w.heap.size w w' := by
 have hu27 := Try.underlying27
 have hu35 := Try.underlying35
 have HB := Aside0.mk (Below.refl w.heap.size w)
 have HP := Aside0.mk (show PB0.header_Right.f v ut sd le ti ty ch = some true by rw [hright_f, decide_eq_true hp])
 have HBO := Aside0.mk (show PB0.header_Body.f v ut sd le ti ty ch a2 = some ((bodyN m ut sd le ti ty ch : Nat) : Int) by
  rcases hm with rfl | rfl
  ·
   subst ha
   exact body_4 v ut sd le ti ty ch hp
  ·
   subst ha
   exact body_8 v ut sd le ti ty ch hp)
 obtain ⟨nB, hnB⟩ : ∃ x, x = bodyN m ut sd le ti ty ch := ⟨_, rfl⟩
 rw [← hnB] at hl HBO
 have hlt0 : decide ((n : Int) < (nB : Int)) = true := decide_eq_true (by omega)
 have hlt1 : decide (n < nB) = true := decide_eq_true hl
 have hcs : (a2 == 4) = true ∧ (a2 != 4) = false ∨ ((a2 == 4) = false ∧ (a2 != 4) = true) ∧ ((a2 == 8) = true ∧ (a2 != 8) = false) := by
  rcases hm with rfl | rfl
  ·
   subst ha; exact .inl (by decide)
  subst ha; exact .inr (by decide)
 clear hnB ha hm hp hl
 rcases hcs with ⟨c1, c2⟩ | ⟨⟨c1, c2⟩, c3, c4⟩
 all_goals
  go_enter Try.func21, Try.ntmps21
  go_upto_region 5 with (first
   | ((with_reducible refine gate_dst (N := 4) rfl ?_); refine box_event ?hg (N := 4) ?hd (cs := #[.int .i64 v, .int .i64 ut, .int .i64 sd, .int .i64 le, .int .i64 ti, .int .i64 ty, .int .i64 ch]) (t := 35) ?hr ?_; (case hd => rfl); (case hg => rfl); (case hr => first | (go_simp; done) | (go_simp; rfl)); intro g4 hg w1 hbox hb; have Bg4 := Aside0.mk hbox; have GEg4 := Aside0.mk (show w.heap.size ≤ g4 by first | omega | (have h_ := below_size HB.out; omega)); clear hbox hg; have n0_ := Aside0.mk (below_step HB.out hb); clear HB; have HB := n0_; clear n0_ hb; obtain ⟨s0, s1, s2, s3, s4, s5, s6⟩ := Sq.c7 Bg4)
   | ((with_reducible refine gate_dst (N := 6) rfl ?_); refine box_event ?hg (N := 6) ?hd (cs := #[.slice none 0 0, .slice none 0 0, .slice none 0 0, .slice none 0 0, .slice none 0 0]) (t := 27) ?hr ?_; (case hd => rfl); (case hg => rfl); (case hr => first | (go_simp; done) | (go_simp; rfl)); intro g6 hg w2 hbox hb; have Bg6 := Aside0.mk hbox; have GEg6 := Aside0.mk (show w.heap.size ≤ g6 by first | omega | (have h_ := below_size HB.out; omega)); have NE46 := Aside0.mk (show g4 ≠ g6 by have := blk_lt Bg4.out; omega); clear hbox hg; have n0_ := Aside0.mk (blk_below Bg4.out hb); have n1_ := Aside0.mk (below_step HB.out hb); clear Bg4 HB; have Bg4 := n0_; have HB := n1_; clear n0_ n1_ hb; obtain ⟨t0, t1, t2, t3, t4, t5, t6⟩ := Sq.c7 Bg4)
   | (go_at_call 19; (with_reducible refine (PB0.header_Right.calls v ut sd le ti ty ch true _ HP.out).mono ?_); rintro e w3 ⟨rfl, hb⟩; have n0_ := Aside0.mk (blk_below Bg4.out hb); have n1_ := Aside0.mk (blk_below Bg6.out hb); have n2_ := Aside0.mk (below_step HB.out hb); clear Bg4 Bg6 HB; have Bg4 := n0_; have Bg6 := n1_; have HB := n2_; clear n0_ n1_ n2_ hb; obtain ⟨x0, x1, x2, x3, x4, x5, x6⟩ := Sq.c7 Bg4)
   | (go_at_call 20; (with_reducible refine (PB0.header_Body.calls v ut sd le ti ty ch a2 (nB : Int) _ HBO.out).mono ?_); rintro e w4 ⟨rfl, hb⟩; have n0_ := Aside0.mk (blk_below Bg4.out hb); have n1_ := Aside0.mk (blk_below Bg6.out hb); have n2_ := Aside0.mk (below_step HB.out hb); clear Bg4 Bg6 HB; have Bg4 := n0_; have Bg6 := n1_; have HB := n2_; clear n0_ n1_ n2_ hb; obtain ⟨y0, y1, y2, y3, y4, y5, y6⟩ := Sq.c7 Bg4))
  refine forget_wp (fun wc => Aside0 (wc.heap[g6]? = some (.cells #[.slice none 0 0, .slice none 0 0, .slice none 0 0, .slice none 0 0, .slice none 0 0] 27 (0, 0))) ∧ Aside0 (Below w.heap.size w wc)) ⟨Bg6, HB⟩ ?_
  clear Bg4 Bg6 HB HP s0 s1 s2 s3 s4 s5 s6 t0 t1 t2 t3 t4 t5 t6 x0 x1 x2 x3 x4 x5 x6 y0 y1 y2 y3 y4 y5 y6
  rintro w6 ⟨B6, HB⟩
  obtain ⟨z0, z1, z2, z3, z4⟩ := Sq.c5 B6
  have y0 := blk_frozen B6.out 0; have y1 := blk_frozen B6.out 1; have y2 := blk_frozen B6.out 2; have y3 := blk_frozen B6.out 3; have y4 := blk_frozen B6.out 4
  go_wp2
  refine bodyPost_ret (results_ct rfl _ _ g6 27 _ (0, 0) _ rfl (put5_at B6.out) Try.underlying27 rfl (by kernel_rfl)) rfl ?_
  exact ⟨rfl, put5_below HB.out GEg6.out⟩
end Go.Proofs.Ythobnoknbdljgaa.Hand
namespace Go.Proofs.Ythobnoknbdljgaa.Stub
open Go.RowKit Go.Proofs.YthobnoknbdljgaaW.PrintWords PB0 Hand
theorem block_Decode.calls (A0 : Option Addr) (c0 : Nat) (l0 : List Int) (v ut sd le ti ty ch a2 : Int) (r1 : List S56) (r2 : List S54) (r3 : List S67) (r4 r5 : List Bool) (r6 : Int) (w : World) (hr0 : Kd.C (Kd.int .u8) w A0 l0.length l0) (hc0 : l0.length ≤ c0) (h : block_Decode.f l0 v ut sd le ti ty ch a2 = some (r1, r2, r3, r4, r5, r6)) :
  Calls Try.prog 21 #[.slice A0 l0.length c0, .agg #[.int .i64 v, .int .i64 ut, .int .i64 sd, .int .i64 le, .int .i64 ti, .int .i64 ty, .int .i64 ch], .int .i64 a2] w fun e w' => ∃ v0_ v1_ v2_ v3_ v4_ : Value, e = .returned (.tuple #[.agg #[v0_, v1_, v2_, v3_, v4_], .int .i64 r6]) ∧ Kd.R k56 56 w' w.heap.size (fun _ => True) v0_ r1 ∧ Kd.R k54 54 w' w.heap.size (fun _ => True) v1_ r2 ∧ Kd.R k67 67 w' w.heap.size (fun _ => True) v2_ r3 ∧ Kd.R Kd.bool 4 w' w.heap.size (fun k_ => some k_ ≠ (v4_ : Value).ownBlock) v3_ r4 ∧ Kd.R Kd.bool 4 w' w.heap.size (fun k_ => some k_ ≠ (v3_ : Value).ownBlock) v4_ r5 ∧ Below w.heap.size w w' := by
 by_cases hp : (a2 = 4 ∨ a2 = 8) ∧ rightP v ut sd le ti ty ch
 rotate_left
 ·
  unfold block_Decode.f at h
  rw [if_neg hp] at h
  simp only [Option.some.injEq, Prod.mk.injEq] at h
  obtain ⟨rfl, rfl, rfl, rfl, rfl, rfl⟩ := h
  refine (decode_no A0 c0 l0.length v ut sd le ti ty ch a2 w hp).mono ?_
  rintro e w' ⟨rfl, hb⟩
  exact ⟨_, _, _, _, _, rfl, Kd.R_nil _ _ _ _ _, Kd.R_nil _ _ _ _ _, Kd.R_nil _ _ _ _ _, Kd.R_nil _ _ _ _ _, Kd.R_nil _ _ _ _ _, hb⟩
 obtain ⟨ha, hp⟩ := hp
 obtain ⟨ut, rfl⟩ := Int.eq_ofNat_of_zero_le (show 0 ≤ ut by obtain ⟨h1, h2, h3, h4, h5, h6, h7⟩ := hp; omega)
 obtain ⟨sd, rfl⟩ := Int.eq_ofNat_of_zero_le (show 0 ≤ sd by obtain ⟨h1, h2, h3, h4, h5, h6, h7⟩ := hp; omega)
 obtain ⟨le, rfl⟩ := Int.eq_ofNat_of_zero_le (show 0 ≤ le by obtain ⟨h1, h2, h3, h4, h5, h6, h7⟩ := hp; omega)
 obtain ⟨ti, rfl⟩ := Int.eq_ofNat_of_zero_le (show 0 ≤ ti by obtain ⟨h1, h2, h3, h4, h5, h6, h7⟩ := hp; omega)
 obtain ⟨ty, rfl⟩ := Int.eq_ofNat_of_zero_le (show 0 ≤ ty by obtain ⟨h1, h2, h3, h4, h5, h6, h7⟩ := hp; omega)
 obtain ⟨ch, rfl⟩ := Int.eq_ofNat_of_zero_le (show 0 ≤ ch by obtain ⟨h1, h2, h3, h4, h5, h6, h7⟩ := hp; omega)
 obtain ⟨m, hm, rfl⟩ : ∃ m : Nat, (m = 4 ∨ m = 8) ∧ a2 = (m : Int) := by
  rcases ha with rfl | rfl
  ·
   exact ⟨4, .inl rfl, rfl⟩
  exact ⟨8, .inr rfl, rfl⟩
 by_cases hl : l0.length < bodyN m ut sd le ti ty ch
 ·
  unfold block_Decode.f at h
  rw [if_pos ⟨ha, hp⟩] at h
  simp only [Int.toNat_natCast] at h
  rw [if_pos hl] at h
  simp only [Option.some.injEq, Prod.mk.injEq] at h
  obtain ⟨rfl, rfl, rfl, rfl, rfl, rfl⟩ := h
  refine (decode_short A0 c0 l0.length v ut sd le ti ty ch _ m rfl hm w hp hl).mono ?_
  rintro e w' ⟨rfl, hb⟩
  exact ⟨_, _, _, _, _, rfl, Kd.R_nil _ _ _ _ _, Kd.R_nil _ _ _ _ _, Kd.R_nil _ _ _ _ _, Kd.R_nil _ _ _ _ _, Kd.R_nil _ _ _ _ _, hb⟩
 have fin : ∀ (q1 : List S56) (q2 : List S54) (q3 : List S67) (q4 q5 : List Bool) (q6 : Int), block_Decode.f l0 v ut sd le ti ty ch m = some (q1, q2, q3, q4, q5, q6) → q1 = r1 ∧ q2 = r2 ∧ q3 = r3 ∧ q4 = r4 ∧ q5 = r5 ∧ q6 = r6 := by
  intro q1 q2 q3 q4 q5 q6 hq
  rw [h] at hq
  simp only [Option.some.injEq, Prod.mk.injEq] at hq
  obtain ⟨a, b, c, d, e, f⟩ := hq
  exact ⟨a.symm, b.symm, c.symm, d.symm, e.symm, f.symm⟩
 rcases hm with rfl | rfl
 ·
  refine (decode4_walk A0 c0 l0 v ut sd le ti ty ch w hr0 hc0 hp (by omega)).mono ?_
  rintro e w' ⟨v0, v1, v2, v3, v4, q1, q2, q3, q4, q5, q6, hq, rfl, H⟩
  obtain ⟨rfl, rfl, rfl, rfl, rfl, rfl⟩ := fin _ _ _ _ _ _ hq
  exact ⟨v0, v1, v2, v3, v4, rfl, H⟩
 refine (decode8_walk A0 c0 l0 v ut sd le ti ty ch w hr0 hc0 hp (by omega)).mono ?_
 rintro e w' ⟨v0, v1, v2, v3, v4, q1, q2, q3, q4, q5, q6, hq, rfl, H⟩
 obtain ⟨rfl, rfl, rfl, rfl, rfl, rfl⟩ := fin _ _ _ _ _ _ hq
 exact ⟨v0, v1, v2, v3, v4, rfl, H⟩
end Go.Proofs.Ythobnoknbdljgaa.Stub
end
section
namespace Go.Proofs.Ythobnoknbdljgaa
open Go.RowKit Hand PB0 Go.Proofs.YthobnoknbdljgaaW.PrintWords
theorem rightB_bd {a1 a2 : Int} {l0 : List S56} {l1 : List S54} {l2 : List S67} {l3 l4 : List Bool} (h : rightB a1 a2 l0 l1 l2 l3 l4 = true) :
  (a1 = 4 ∨ a1 = 8) ∧ 1 ≤ l0.length ∧ l0.length ≤ 256 ∧ (l3.length = 0 ∨ l3.length = l0.length) ∧ (l4.length = 0 ∨ l4.length = l0.length) ∧ l1.length ≤ 5000 ∧ l2.length ≤ 5000 ∧ (nmSt (names l0)).1.length ≤ 256 := by
 unfold rightB kindedB cntB jumpedB leapedB at h
 simp only [Bool.and_eq_true, Bool.or_eq_true, decide_eq_true_eq] at h
 obtain ⟨⟨⟨h1, ⟨h2, _⟩, h3⟩, _, h4⟩, _, h5⟩ := h
 refine ⟨h1, h2.1, h2.2.1, h2.2.2.1, h2.2.2.2, by omega, by omega, h3⟩
def encR (l0 : List S56) (l1 : List S54) (l2 : List S67) (l3 l4 : List Bool) (a1 a2 : Int) : List Int × Int × Int × Int × Int × Int × Int × Int × Int :=
 if 1 ≤ a2 ∧ a2 ≤ 4 ∧ rightB a1 a2 l0 l1 l2 l3 l4 = true then
  (encL a1.toNat l0 l1 l2 l3 l4, a2, (l4.length : Int), (l3.length : Int), (l2.length : Int), (l1.length : Int), (l0.length : Int), ((nmSt (names l0)).1.length : Int), 0)
 else ([], 0, 0, 0, 0, 0, 0, 0, 1)
theorem put_f0 (m : Nat) (hm : m ≤ 8) (n : Int) (xs : List Int) (hx : xs.length < 1000000000) : Stub.octets_Put.f xs (m : Int) n = some (xs ++ be m n) := by
 unfold Stub.octets_Put.f
 rw [if_pos ⟨hx, by omega, by omega⟩, Int.toNat_natCast]
theorem tr_f0 (l : List Bool) (h : l.length ≤ 1000000) : Stub.block_truths.f l = some (tr l) := by
 unfold Stub.block_truths.f
 rw [if_pos h]
theorem tr_len (l : List Bool) : (tr l).length = l.length := List.length_map _
theorem drop_get {α : Type} (l : List α) (i : Nat) (h : i < l.length) : l.drop i = l[i] :: l.drop (i + 1) := List.drop_eq_getElem_cons h
theorem w64s (i : Nat) (h : i < 1000000000) : wrap64 ((i : Int) + 1) = ((i + 1 : Nat) : Int) := by rw [w64 (by omega) (by omega)]; omega
theorem enc_l3 (m : Nat) (hm : m ≤ 8) (a2 : Int) (nm : ByteArray) (l0 : List S56) (l1 : List S54) (l2 : List S67) (l3 l4 : List Bool) (h2 : l2.length ≤ 5000) (h3 : l3.length ≤ 256) (h4 : l4.length ≤ 256) (d : Nat) :
  ∀ (k i : Nat) (x : List Int), i + d = l2.length → d < k → x.length + 12 * d ≤ 1000000 →
   PE.block_Encode.l3 k (m : Int) a2 x nm l2 (l2.length : Int) i l0 l1 l2 l3 l4 = some (x ++ (l2.drop i).flatMap (lA m) ++ tr l3 ++ tr l4, a2, (l4.length : Int), (l3.length : Int), (l2.length : Int), (l1.length : Int), (l0.length : Int), (nm.size : Int), 0) := by
 induction d with
 | zero =>
  intro k i x hi hk hx
  obtain ⟨k, rfl⟩ : ∃ q, k = q + 1 := ⟨k - 1, by omega⟩
  rw [PE.block_Encode.l3, if_neg (by omega), tr_f0 l3 (by omega), tr_f0 l4 (by omega)]
  have hc : slices_Concat_byte_byte.f [x, tr l3, tr l4] = some (x ++ tr l3 ++ tr l4) := by
   unfold slices_Concat_byte_byte.f
   rw [if_pos ⟨by simp, by simp [tr_len]; omega⟩]
   simp
  rw [Option.bind_some, Option.bind_some, hc, Option.bind_some, List.drop_of_length_le (by omega)]
  simp
 | succ d ih =>
  intro k i x hi hk hx
  obtain ⟨k, rfl⟩ : ∃ q, k = q + 1 := ⟨k - 1, by omega⟩
  have hlt : i < l2.length := by omega
  rw [PE.block_Encode.l3, if_pos (by omega), if_pos (by omega), if_pos (by omega), rd67 l2 i hlt, put_f0 m hm _ [] (by simp)]
  rw [Option.bind_some, show (4 : Int) = ((4 : Nat) : Int) from rfl, put_f0 4 (by omega) _ _ (by rw [List.length_append, be_len]; simp; omega), Option.bind_some]
  rw [if_pos (by rw [List.length_append, List.length_append, be_len, be_len]; simp; omega), w64s i (by omega), ih k (i + 1) _ (by omega) (by omega) (by rw [List.length_append, List.length_append, List.length_append, be_len, be_len]; simp; omega)]
  rw [drop_get l2 i hlt, List.flatMap_cons]
  simp [lA, u64w]
theorem enc_l2 (m : Nat) (hm : m ≤ 8) (a2 : Int) (nm : ByteArray) (at_ : List Int) (l0 : List S56) (l1 : List S54) (l2 : List S67) (l3 l4 : List Bool) (hn : nm.size ≤ 256) (hat : at_.length = l0.length) (h0 : l0.length ≤ 256) (h2 : l2.length ≤ 5000) (h3 : l3.length ≤ 256) (h4 : l4.length ≤ 256) (d : Nat) :
  ∀ (k i : Nat) (x : List Int), i + d = l0.length → d + l2.length + 1 < k → x.length + 6 * d ≤ 100000 →
   PE.block_Encode.l2 k (m : Int) a2 x nm at_ l0 (l0.length : Int) i l0 l1 l2 l3 l4 = some (x ++ ((l0.zip at_).drop i).flatMap kA ++ bytesOf nm ++ l2.flatMap (lA m) ++ tr l3 ++ tr l4, a2, (l4.length : Int), (l3.length : Int), (l2.length : Int), (l1.length : Int), (l0.length : Int), (nm.size : Int), 0) := by
 induction d with
 | zero =>
  intro k i x hi hk hx
  obtain ⟨k, rfl⟩ : ∃ q, k = q + 1 := ⟨k - 1, by omega⟩
  rw [PE.block_Encode.l2, if_neg (by omega), if_pos (by omega)]
  have h := enc_l3 m hm a2 nm l0 l1 l2 l3 l4 h2 h3 h4 l2.length k 0 (x ++ bytesOf nm) (by omega) (by omega) (by rw [List.length_append, bytesOf_length]; omega)
  rw [show ((0 : Nat) : Int) = 0 from rfl] at h
  rw [h, List.drop_of_length_le (show (l0.zip at_).length ≤ i by rw [List.length_zip]; omega), List.drop_zero]
  simp
 | succ d ih =>
  intro k i x hi hk hx
  obtain ⟨k, rfl⟩ : ∃ q, k = q + 1 := ⟨k - 1, by omega⟩
  have hlt : i < l0.length := by omega
  have hz : i < (l0.zip at_).length := by rw [List.length_zip]; omega
  rw [PE.block_Encode.l2, if_pos (by omega), if_pos (by omega), if_pos (by omega), rd56 l0 i hlt, show (4 : Int) = ((4 : Nat) : Int) from rfl, put_f0 4 (by omega) _ [] (by simp)]
  rw [Option.bind_some, tr_f0 _ (by simp), Option.bind_some, w64s i (by omega), if_pos (by omega), if_pos (by omega)]
  have e1 : ((at_.take (((i + 1 : Nat) : Int)).toNat).drop ((i : Int)).toNat) = [at_[i]] := by
   rw [Int.toNat_natCast, Int.toNat_natCast, List.take_add_one, List.getElem?_eq_getElem (by omega), List.drop_append_of_le_length (by rw [List.length_take]; omega), List.drop_of_length_le (by rw [List.length_take]; omega)]
   rfl
  rw [e1]
  have hc : slices_Concat_byte_byte.f [x, [] ++ be 4 (IntKind.u64.wrap l0[i].f0), tr [l0[i].f1], [at_[i]]] = some (x ++ kA (l0[i], at_[i])) := by
   unfold slices_Concat_byte_byte.f
   rw [if_pos ⟨by simp, by simp [tr_len, be_len]; omega⟩]
   simp [kA, u64w, tr]
  rw [hc, Option.bind_some, ih k (i + 1) _ (by omega) (by omega) (by rw [List.length_append, kA_len]; omega)]
  rw [drop_get _ i hz, List.flatMap_cons, List.getElem_zip]
  simp
theorem enc_l1 (m : Nat) (hm : m ≤ 8) (a2 : Int) (l0 : List S56) (l1 : List S54) (l2 : List S67) (l3 l4 : List Bool) (hne : l0 ≠ []) (hs : nmSum (names l0) ≤ 1000000) (hn : (nmSt (names l0)).1.length ≤ 256) (h0 : l0.length ≤ 256) (h1 : l1.length ≤ 5000) (h2 : l2.length ≤ 5000) (h3 : l3.length ≤ 256) (h4 : l4.length ≤ 256) (d : Nat) :
  ∀ (k i : Nat) (x : List Int), i + d = l1.length → d + l0.length + l2.length + 2 < k → x.length + d ≤ 90000 →
   PE.block_Encode.l1 k (m : Int) a2 x l1 (l1.length : Int) i l0 l1 l2 l3 l4 = some (x ++ (l1.drop i).flatMap jB ++ (l0.zip (nmSt (names l0)).2.2).flatMap kA ++ bytesOf ⟨(nmSt (names l0)).1.toArray⟩ ++ l2.flatMap (lA m) ++ tr l3 ++ tr l4, a2, (l4.length : Int), (l3.length : Int), (l2.length : Int), (l1.length : Int), (l0.length : Int), ((nmSt (names l0)).1.length : Int), 0) := by
 induction d with
 | zero =>
  intro k i x hi hk hx
  obtain ⟨k, rfl⟩ : ∃ q, k = q + 1 := ⟨k - 1, by omega⟩
  rw [PE.block_Encode.l1, if_neg (by omega)]
  have hf : block_names.f l0 = some (⟨(nmSt (names l0)).1.toArray⟩, (nmSt (names l0)).2.2) := by
   unfold block_names.f
   rw [if_pos ⟨hne, hs⟩]
  have hsz : (⟨(nmSt (names l0)).1.toArray⟩ : ByteArray).size = (nmSt (names l0)).1.length := sz_l _
  have hat : (nmSt (names l0)).2.2.length = l0.length := by rw [(nmSt_len _).2]; simp [names]
  have h := enc_l2 m hm a2 ⟨(nmSt (names l0)).1.toArray⟩ (nmSt (names l0)).2.2 l0 l1 l2 l3 l4 (by rw [hsz]; exact hn) hat h0 h2 h3 h4 l0.length k 0 x (by omega) (by omega) (by omega)
  rw [show ((0 : Nat) : Int) = 0 from rfl, hsz] at h
  rw [hf, Option.bind_some, h, List.drop_of_length_le (show l1.length ≤ i by omega), List.drop_zero]
  simp
 | succ d ih =>
  intro k i x hi hk hx
  obtain ⟨k, rfl⟩ : ∃ q, k = q + 1 := ⟨k - 1, by omega⟩
  have hlt : i < l1.length := by omega
  rw [PE.block_Encode.l1, if_pos (by omega), if_pos (by omega), if_pos (by omega), rd54 l1 i hlt, if_pos (by omega), w64s i (by omega), ih k (i + 1) _ (by omega) (by omega) (by rw [List.length_append]; simp; omega)]
  rw [drop_get l1 i hlt, List.flatMap_cons]
  simp [jB]
theorem enc_l0 (m : Nat) (hm : m ≤ 8) (a2 : Int) (l0 : List S56) (l1 : List S54) (l2 : List S67) (l3 l4 : List Bool) (hne : l0 ≠ []) (hs : nmSum (names l0) ≤ 1000000) (hn : (nmSt (names l0)).1.length ≤ 256) (h0 : l0.length ≤ 256) (h1 : l1.length ≤ 5000) (h2 : l2.length ≤ 5000) (h3 : l3.length ≤ 256) (h4 : l4.length ≤ 256) (d : Nat) :
  ∀ (k i : Nat) (x : List Int), i + d = l1.length → d + l1.length + l0.length + l2.length + 3 < k → x.length + 8 * d ≤ 80000 →
   PE.block_Encode.l0 k (m : Int) a2 x l1 (l1.length : Int) i l0 l1 l2 l3 l4 = some (x ++ (l1.drop i).flatMap (jA m) ++ l1.flatMap jB ++ (l0.zip (nmSt (names l0)).2.2).flatMap kA ++ bytesOf ⟨(nmSt (names l0)).1.toArray⟩ ++ l2.flatMap (lA m) ++ tr l3 ++ tr l4, a2, (l4.length : Int), (l3.length : Int), (l2.length : Int), (l1.length : Int), (l0.length : Int), ((nmSt (names l0)).1.length : Int), 0) := by
 induction d with
 | zero =>
  intro k i x hi hk hx
  obtain ⟨k, rfl⟩ : ∃ q, k = q + 1 := ⟨k - 1, by omega⟩
  rw [PE.block_Encode.l0, if_neg (by omega)]
  have h := enc_l1 m hm a2 l0 l1 l2 l3 l4 hne hs hn h0 h1 h2 h3 h4 l1.length k 0 x (by omega) (by omega) (by omega)
  rw [show ((0 : Nat) : Int) = 0 from rfl] at h
  rw [h, List.drop_of_length_le (show l1.length ≤ i by omega), List.drop_zero]
  simp
 | succ d ih =>
  intro k i x hi hk hx
  obtain ⟨k, rfl⟩ : ∃ q, k = q + 1 := ⟨k - 1, by omega⟩
  have hlt : i < l1.length := by omega
  rw [PE.block_Encode.l0, if_pos (by omega), if_pos (by omega), if_pos (by omega), rd54 l1 i hlt, put_f0 m hm _ [] (by simp), Option.bind_some]
  rw [if_pos (by rw [List.length_append, be_len]; simp; omega), w64s i (by omega), ih k (i + 1) _ (by omega) (by omega) (by rw [List.length_append, List.length_append, be_len]; simp; omega)]
  rw [drop_get l1 i hlt, List.flatMap_cons]
  simp [jA, u64w]
theorem enc_f (k : Nat) (l0 : List S56) (l1 : List S54) (l2 : List S67) (l3 l4 : List Bool) (a1 a2 : Int) (hok : encOK l0 l1 l2 l3 l4) (hk : 2 * l1.length + l0.length + l2.length + 8 ≤ k) :
  PE.block_Encode.f k l0 l1 l2 l3 l4 a1 a2 = some (encR l0 l1 l2 l3 l4 a1 a2) := by
 obtain ⟨k, rfl⟩ : ∃ q, k = q + 1 := ⟨k - 1, by omega⟩
 unfold PE.block_Encode.f encR
 by_cases c1 : a2 < 1
 ·
  rw [if_pos c1, PE.block_Encode.j0, if_pos rfl, if_neg (by omega)]
 ·
  rw [if_neg c1]
  by_cases c2 : a2 > 4
  ·
   rw [if_pos c2, PE.block_Encode.j0, if_pos rfl, if_neg (by omega)]
  ·
   rw [if_neg c2]
   have hr : Stub.block_Right.f l0 l1 l2 l3 l4 a1 a2 = some (rightB a1 a2 l0 l1 l2 l3 l4) := by
    unfold Stub.block_Right.f
    rw [if_pos hok]
   rw [hr, Option.bind_some, PE.block_Encode.j0]
   cases hb : rightB a1 a2 l0 l1 l2 l3 l4
   ·
    rw [if_pos (by rfl), if_neg (fun h => by cases h.2.2)]
   ·
    rw [if_neg (by decide), if_pos ⟨by omega, by omega, rfl⟩]
    obtain ⟨b1_, b2, b3, b4, b5, b6, b7, b8⟩ := rightB_bd hb
    obtain ⟨m, hm, rfl⟩ : ∃ m : Nat, m ≤ 8 ∧ a1 = (m : Int) := ⟨a1.toNat, by omega, by omega⟩
    have h := enc_l0 m hm a2 l0 l1 l2 l3 l4 (by intro e; rw [e] at b2; simp at b2) hok.2.1 b8 b3 b6 b7 (by omega) (by omega) l1.length k 0 [] (by omega) (by omega) (by simp; omega)
    rw [show ((0 : Nat) : Int) = 0 from rfl] at h
    rw [h]
    simp [encL]
end Go.Proofs.Ythobnoknbdljgaa
namespace Go.Proofs.Ythobnoknbdljgaa.Stub2
open Go.RowKit Go.Proofs.YthobnoknbdljgaaW.PrintWords PB0 Hand
def block_Encode.f (l0 : List S56) (l1 : List S54) (l2 : List S67) (l3 l4 : List Bool) (a1 a2 : Int) : Option (List Int × Int × Int × Int × Int × Int × Int × Int × Int) :=
 if encOK l0 l1 l2 l3 l4 then some (encR l0 l1 l2 l3 l4 a1 a2) else none
theorem block_Encode.calls (A0_0 : Option Addr) (c0_0 : Nat) (l0_0 : List S56) (A0_1 : Option Addr) (c0_1 : Nat) (l0_1 : List S54) (A0_2 : Option Addr) (c0_2 : Nat) (l0_2 : List S67) (A0_3 : Option Addr) (c0_3 : Nat) (l0_3 : List Bool) (A0_4 : Option Addr) (c0_4 : Nat) (l0_4 : List Bool) (a1 a2 : Int) (r1 : List Int) (r2 r3 r4 r5 r6 r7 r8 r9 : Int) (w : World) (hr0_0 : Kd.C k56 w A0_0 l0_0.length l0_0) (hc0_0 : l0_0.length ≤ c0_0) (hr0_1 : Kd.C k54 w A0_1 l0_1.length l0_1) (hc0_1 : l0_1.length ≤ c0_1) (hr0_2 : Kd.C k67 w A0_2 l0_2.length l0_2) (hc0_2 : l0_2.length ≤ c0_2) (hr0_3 : Kd.C Kd.bool w A0_3 l0_3.length l0_3) (hc0_3 : l0_3.length ≤ c0_3) (hr0_4 : Kd.C Kd.bool w A0_4 l0_4.length l0_4) (hc0_4 : l0_4.length ≤ c0_4) (h : block_Encode.f l0_0 l0_1 l0_2 l0_3 l0_4 a1 a2 = some (r1, r2, r3, r4, r5, r6, r7, r8, r9)) :
  Calls Try.prog 15 #[.agg #[.slice A0_0 l0_0.length c0_0, .slice A0_1 l0_1.length c0_1, .slice A0_2 l0_2.length c0_2, .slice A0_3 l0_3.length c0_3, .slice A0_4 l0_4.length c0_4], .int .i64 a1, .int .i64 a2] w fun e w' => ∃ v0_ : Value, e = .returned (.tuple #[v0_, .agg #[.int .i64 r2, .int .i64 r3, .int .i64 r4, .int .i64 r5, .int .i64 r6, .int .i64 r7, .int .i64 r8], .int .i64 r9]) ∧ Kd.R (Kd.int .u8) 5 w' w.heap.size (fun _ => True) v0_ r1 ∧ Below w.heap.size w w' := by
 unfold block_Encode.f at h
 split at h
 ·
  rename_i hok
  exact PE.block_Encode.calls _ A0_0 c0_0 l0_0 A0_1 c0_1 l0_1 A0_2 c0_2 l0_2 A0_3 c0_3 l0_3 A0_4 c0_4 l0_4 a1 a2 r1 r2 r3 r4 r5 r6 r7 r8 r9 w hr0_0 hc0_0 hr0_1 hc0_1 hr0_2 hc0_2 hr0_3 hc0_3 hr0_4 hc0_4 ((enc_f _ l0_0 l0_1 l0_2 l0_3 l0_4 a1 a2 hok (Nat.le_refl _)).trans h)
 ·
  cases h
end Go.Proofs.Ythobnoknbdljgaa.Stub2
end
section
namespace Go.Proofs.Ythobnoknbdljgaa
open Go.RowKit Hand PB0
def shK : List S56 := [⟨-5, false, ⟨#[65]⟩⟩, ⟨3600, true, ⟨#[66, 67]⟩⟩]
def shJ : List S54 := [⟨-9, 1⟩, ⟨7, 0⟩]
def shB : List Int := (encR shK shJ [] [] [] 4 1).1
theorem sh_enc : Stub2.block_Encode.f shK shJ [] [] [] 4 1 = some (shB, 1, 0, 0, 0, 2, 2, 5, 0) := by kernel_rfl
theorem sh_dec : block_Decode.f shB 1 0 0 0 2 2 5 4 = some (shK, shJ, [], [], [], 0) := by kernel_rfl
theorem sh_no : Stub2.block_Encode.f [] [] [] [] [] 4 1 = some ([], 0, 0, 0, 0, 0, 0, 0, 1) := by kernel_rfl
theorem sh_short : block_Decode.f [] 1 0 0 0 2 2 5 4 = some ([], [], [], [], [], 5) := by kernel_rfl
theorem sh_right : Stub.block_Right.f shK shJ [] [] [] 8 2 = some true := by kernel_rfl
theorem sh_len : shB.length = 27 := by kernel_rfl
end Go.Proofs.Ythobnoknbdljgaa
namespace Go.Proofs.Ythobnoknbdljgaa.Hand
open Go.RowKit Go.Proofs.YthobnoknbdljgaaW.PrintWords Go.Proofs.YthobnoknbdljgaaW.PrintLast Go.Proofs.YthobnoknbdljgaaW.PrintMore PB0
set_option linter.unusedVariables false
set_option linter.unusedSimpArgs false
theorem eqA56 (d : Nat) (w : World) (x0 y0 : Int) (x1 y1 : Bool) (x2 y2 : ByteArray) :
  (Op.equalIn (d + 2) 56 (.agg #[.int .i64 x0, .bool x1, .string x2]) (.agg #[.int .i64 y0, .bool y1, .string y2])).run Try.prog w = .ok (x0 == y0 && (x1 == y1 && (x2.toList == y2.toList))) w := by
 refine eqA_of Try.underlying56 (by kernel_rfl) ?_
 refine eqf_cons (by rfl) (by go_simp; rfl) (by go_simp; rfl) (by go_simp) ?_
 refine eqf_cons (by rfl) (by go_simp; rfl) (by go_simp; rfl) (by go_simp) ?_
 exact eqf_last (by rfl) (by go_simp; rfl) (by go_simp; rfl) (by go_simp)
theorem eqA54 (d : Nat) (w : World) (x0 y0 : Int) (x1 y1 : Int) :
  (Op.equalIn (d + 2) 54 (.agg #[.int .i64 x0, .int .i64 x1]) (.agg #[.int .i64 y0, .int .i64 y1])).run Try.prog w = .ok (x0 == y0 && (x1 == y1)) w := by
 refine eqA_of Try.underlying54 (by kernel_rfl) ?_
 refine eqf_cons (by rfl) (by go_simp; rfl) (by go_simp; rfl) (by go_simp) ?_
 exact eqf_last (by rfl) (by go_simp; rfl) (by go_simp; rfl) (by go_simp)
theorem eqK_self (d : Nat) (w : World) (a : Int) (b : Bool) (c : ByteArray) : (Op.equalIn (d + 2) 56 (.agg #[.int .i64 a, .bool b, .string c]) (.agg #[.int .i64 a, .bool b, .string c])).run Try.prog w = .ok true w := by
 rw [eqA56]; simp
theorem eqJ_self (d : Nat) (w : World) (a b : Int) : (Op.equalIn (d + 2) 54 (.agg #[.int .i64 a, .int .i64 b]) (.agg #[.int .i64 a, .int .i64 b])).run Try.prog w = .ok true w := by
 rw [eqA54]; simp
section
variable {w w0 : World} {g g' : Nat} {t : TypeId} {c0 c1 c2 c3 c4 c5 c6 v0 v1 v2 v3 v4 v5 v6 : Value}
theorem put7_at (h : w.heap[g]? = some (.cells #[c0, c1, c2, c3, c4, c5, c6] t (0, 0))) :
  (((((((w.setCell ⟨g, 0, none⟩ v0).setCell ⟨g, 1, none⟩ v1).setCell ⟨g, 2, none⟩ v2).setCell ⟨g, 3, none⟩ v3).setCell ⟨g, 4, none⟩ v4).setCell ⟨g, 5, none⟩ v5).setCell ⟨g, 6, none⟩ v6).heap[g]? = some (.cells #[v0, v1, v2, v3, v4, v5, v6] t (0, 0)) := by
 have h1 := blk_put (cs' := #[v0, c1, c2, c3, c4, c5, c6]) h 0 v0 rfl
 have h2 := blk_put (cs' := #[v0, v1, c2, c3, c4, c5, c6]) h1 1 v1 rfl
 have h3 := blk_put (cs' := #[v0, v1, v2, c3, c4, c5, c6]) h2 2 v2 rfl
 have h4 := blk_put (cs' := #[v0, v1, v2, v3, c4, c5, c6]) h3 3 v3 rfl
 have h5 := blk_put (cs' := #[v0, v1, v2, v3, v4, c5, c6]) h4 4 v4 rfl
 have h6 := blk_put (cs' := #[v0, v1, v2, v3, v4, v5, c6]) h5 5 v5 rfl
 exact blk_put (cs' := #[v0, v1, v2, v3, v4, v5, v6]) h6 6 v6 rfl
theorem put7_far {cs : Array Value} (h : w.heap[g']? = some (.cells cs t (0, 0))) (hn : g' ≠ g) :
  (((((((w.setCell ⟨g, 0, none⟩ v0).setCell ⟨g, 1, none⟩ v1).setCell ⟨g, 2, none⟩ v2).setCell ⟨g, 3, none⟩ v3).setCell ⟨g, 4, none⟩ v4).setCell ⟨g, 5, none⟩ v5).setCell ⟨g, 6, none⟩ v6).heap[g']? = some (.cells cs t (0, 0)) :=
 blk_far (blk_far (blk_far (blk_far (blk_far (blk_far (blk_far h hn v0) hn v1) hn v2) hn v3) hn v4) hn v5) hn v6
theorem put7_below (h : Below w0.heap.size w0 w) (hg : w0.heap.size ≤ g) :
  Below w0.heap.size w0 (((((((w.setCell ⟨g, 0, none⟩ v0).setCell ⟨g, 1, none⟩ v1).setCell ⟨g, 2, none⟩ v2).setCell ⟨g, 3, none⟩ v3).setCell ⟨g, 4, none⟩ v4).setCell ⟨g, 5, none⟩ v5).setCell ⟨g, 6, none⟩ v6) :=
 below_set (below_set (below_set (below_set (below_set (below_set (below_set h hg) hg) hg) hg) hg) hg) hg
theorem put7_R {α : Type} {d : Kd α} {e base : Nat} {ok : Nat → Prop} {v : Value} {xs : List α} {cs : Array Value} (h : d.R e w base ok v xs) (hb : w.heap[g]? = some (.cells cs t (0, 0))) (ht : ∀ q, q ∈ e :: d.E → q ≠ t) :
  d.R e (((((((w.setCell ⟨g, 0, none⟩ v0).setCell ⟨g, 1, none⟩ v1).setCell ⟨g, 2, none⟩ v2).setCell ⟨g, 3, none⟩ v3).setCell ⟨g, 4, none⟩ v4).setCell ⟨g, 5, none⟩ v5).setCell ⟨g, 6, none⟩ v6) base ok v xs := by
 refine Kd.R_mono (Kd.R_step (Kd.R_types h hb ht) (fun k hk _ => ?_)) (fun _ hk => hk.1)
 rw [heap_setO hk.2, heap_setO hk.2, heap_setO hk.2, heap_setO hk.2, heap_setO hk.2, heap_setO hk.2, heap_setO hk.2]
end
theorem R_len {α : Type} {d : Kd α} {e base : Nat} {ok : Nat → Prop} {w : World} {v : Value} {xs : List α} (n : Nat) (hn : xs.length = n) (h : d.R e w base ok v xs) : ∃ A c, v = .slice A n c := by
 obtain ⟨A, c, e⟩ := Kd.R_slice h
 exact ⟨A, c, by rw [e, hn]⟩
theorem nilC {α : Type} (d : Kd α) (w : World) : Kd.C d w none 0 [] := (Kd.R_reads' (Kd.R_nil d 0 w 0 (fun _ => True))).2.2
theorem shc1 {b : Nat} {ok : Nat → Prop} {A1 A2 : Option Addr} {c1 c2 : Nat} (w : World) (h1 : Kd.R k56 56 w b ok (.slice A1 2 c1) shK) (h2 : Kd.R k54 54 w b ok (.slice A2 2 c2) shJ) : Calls Try.prog 15 #[.agg #[.slice A1 2 c1, .slice A2 2 c2, .slice none 0 0, .slice none 0 0, .slice none 0 0], .int .i64 4, .int .i64 1] w fun e w' => ∃ v0_ : Value, e = .returned (.tuple #[v0_, .agg #[.int .i64 1, .int .i64 0, .int .i64 0, .int .i64 0, .int .i64 2, .int .i64 2, .int .i64 5], .int .i64 0]) ∧ Kd.R (Kd.int .u8) 5 w' w.heap.size (fun _ => True) v0_ shB ∧ Below w.heap.size w w' :=
 Stub2.block_Encode.calls A1 c1 shK A2 c2 shJ none 0 [] none 0 [] none 0 [] 4 1 shB 1 0 0 0 2 2 5 0 w (Kd.R_reads' h1).2.2 (Kd.R_reads' h1).2.1 (Kd.R_reads' h2).2.2 (Kd.R_reads' h2).2.1 (nilC _ _) (Nat.le_refl _) (nilC _ _) (Nat.le_refl _) (nilC _ _) (Nat.le_refl _) sh_enc
theorem shc2 {b : Nat} {ok : Nat → Prop} {A : Option Addr} {c : Nat} (w : World) (h : Kd.R (Kd.int .u8) 5 w b ok (.slice A 27 c) shB) : Calls Try.prog 21 #[.slice A 27 c, .agg #[.int .i64 1, .int .i64 0, .int .i64 0, .int .i64 0, .int .i64 2, .int .i64 2, .int .i64 5], .int .i64 4] w fun e w' => ∃ v0_ v1_ v2_ v3_ v4_ : Value, e = .returned (.tuple #[.agg #[v0_, v1_, v2_, v3_, v4_], .int .i64 0]) ∧ Kd.R k56 56 w' w.heap.size (fun _ => True) v0_ shK ∧ Kd.R k54 54 w' w.heap.size (fun _ => True) v1_ shJ ∧ Kd.R k67 67 w' w.heap.size (fun _ => True) v2_ [] ∧ Kd.R Kd.bool 4 w' w.heap.size (fun k_ => some k_ ≠ (v4_ : Value).ownBlock) v3_ [] ∧ Kd.R Kd.bool 4 w' w.heap.size (fun k_ => some k_ ≠ (v3_ : Value).ownBlock) v4_ [] ∧ Below w.heap.size w w' := by
 have hl := (Kd.R_reads' h)
 have q := Stub.block_Decode.calls A c shB 1 0 0 0 2 2 5 4 shK shJ [] [] [] 0 w (by rw [sh_len]; have := hl.2.2; rwa [sh_len] at this) (by rw [sh_len]; exact hl.2.1) sh_dec
 rwa [sh_len] at q
theorem shc3 (w : World) : Calls Try.prog 15 #[.agg #[.slice none 0 0, .slice none 0 0, .slice none 0 0, .slice none 0 0, .slice none 0 0], .int .i64 4, .int .i64 1] w fun e w' => ∃ v0_ : Value, e = .returned (.tuple #[v0_, .agg #[.int .i64 0, .int .i64 0, .int .i64 0, .int .i64 0, .int .i64 0, .int .i64 0, .int .i64 0], .int .i64 1]) ∧ Kd.R (Kd.int .u8) 5 w' w.heap.size (fun _ => True) v0_ [] ∧ Below w.heap.size w w' :=
 Stub2.block_Encode.calls none 0 [] none 0 [] none 0 [] none 0 [] none 0 [] 4 1 [] 0 0 0 0 0 0 0 1 w (nilC _ _) (Nat.le_refl _) (nilC _ _) (Nat.le_refl _) (nilC _ _) (Nat.le_refl _) (nilC _ _) (Nat.le_refl _) (nilC _ _) (Nat.le_refl _) sh_no
theorem shc4 (w : World) : Calls Try.prog 21 #[.slice none 0 0, .agg #[.int .i64 1, .int .i64 0, .int .i64 0, .int .i64 0, .int .i64 2, .int .i64 2, .int .i64 5], .int .i64 4] w fun e w' => ∃ v0_ v1_ v2_ v3_ v4_ : Value, e = .returned (.tuple #[.agg #[v0_, v1_, v2_, v3_, v4_], .int .i64 5]) ∧ Kd.R k56 56 w' w.heap.size (fun _ => True) v0_ [] ∧ Kd.R k54 54 w' w.heap.size (fun _ => True) v1_ [] ∧ Kd.R k67 67 w' w.heap.size (fun _ => True) v2_ [] ∧ Kd.R Kd.bool 4 w' w.heap.size (fun k_ => some k_ ≠ (v4_ : Value).ownBlock) v3_ [] ∧ Kd.R Kd.bool 4 w' w.heap.size (fun k_ => some k_ ≠ (v3_ : Value).ownBlock) v4_ [] ∧ Below w.heap.size w w' :=
 Stub.block_Decode.calls none 0 [] 1 0 0 0 2 2 5 4 [] [] [] [] [] 5 w (nilC _ _) (Nat.le_refl _) sh_short
theorem shc5 {b : Nat} {ok : Nat → Prop} {A1 A2 : Option Addr} {c1 c2 : Nat} (w : World) (h1 : Kd.R k56 56 w b ok (.slice A1 2 c1) shK) (h2 : Kd.R k54 54 w b ok (.slice A2 2 c2) shJ) : Calls Try.prog 16 #[.agg #[.slice A1 2 c1, .slice A2 2 c2, .slice none 0 0, .slice none 0 0, .slice none 0 0], .int .i64 8, .int .i64 2] w fun e w' => e = .returned (.bool true) ∧ Below w.heap.size w w' :=
 Stub.block_Right.calls A1 c1 shK A2 c2 shJ none 0 [] none 0 [] none 0 [] 8 2 true w (Kd.R_reads' h1).2.2 (Kd.R_reads' h1).2.1 (Kd.R_reads' h2).2.2 (Kd.R_reads' h2).2.1 (nilC _ _) (Nat.le_refl _) (nilC _ _) (Nat.le_refl _) (nilC _ _) (Nat.le_refl _) sh_right
theorem R_form2 {α : Type} {d : Kd α} {e base : Nat} {ok : Nat → Prop} {w : World} {A : Option Addr} {n c : Nat} {xs : List α} (h : d.R e w base ok (.slice A n c) xs) (hn : 0 < xs.length) : ∃ g, A = some ⟨g, 0, none⟩ := by
 obtain ⟨g, cap, hv, _⟩ := Kd.R_form h hn
 injection hv with e1 _ _
 exact ⟨g, e1⟩
theorem sh_kind {b : Nat} {ok : Nat → Prop} {g c : Nat} {w : World} (h : Kd.R k56 56 w b ok (.slice (some ⟨g, 0, none⟩) 2 c) shK) :
  w.cell? ⟨g, 3, none⟩ = some (.int .i64 3600) ∧ w.cell? ⟨g, 4, none⟩ = some (.bool true) ∧ w.cell? ⟨g, 5, none⟩ = some (.string ⟨#[66, 67]⟩) := by
 obtain ⟨cs, hcl, hM, hcc, hf⟩ := Kd.R_elem h z56 1 (by omega) (by omega)
 have hc := k56_openM hM
 subst hc
 exact ⟨hcc 0 _ rfl, hcc 1 _ rfl, hcc 2 _ rfl⟩
theorem sh_jump {b : Nat} {ok : Nat → Prop} {g c : Nat} {w : World} (h : Kd.R k54 54 w b ok (.slice (some ⟨g, 0, none⟩) 2 c) shJ) :
  w.cell? ⟨g, 0, none⟩ = some (.int .i64 (-9)) ∧ w.cell? ⟨g, 1, none⟩ = some (.int .i64 1) := by
 obtain ⟨cs, hcl, hM, hcc, hf⟩ := Kd.R_elem h z54 0 (by omega) (by omega)
 have hc := k54_openM hM
 subst hc
 exact ⟨hcc 0 _ rfl, hcc 1 _ rfl⟩
theorem sh_S {w w' : World} {g1 g3 g5 a1 a2 a5 a6 c1 c2 c5 c6 c7 c8 c9 : Nat} {A7 A8 A9 : Option Addr} (b0 : Aside0 (w'.heap[g1]? = some (.cells #[.slice (some ⟨a1, 0, none⟩) 2 c1, .slice (some ⟨a2, 0, none⟩) 2 c2, .slice none 0 0, .slice none 0 0, .slice none 0 0] 27 (0, 0)))) (b1 : Aside0 (w'.heap[g3]? = some (.cells #[.int .i64 1, .int .i64 0, .int .i64 0, .int .i64 0, .int .i64 2, .int .i64 2, .int .i64 5] 35 (0, 0)))) (b2 : Aside0 (w'.heap[g5]? = some (.cells #[.slice (some ⟨a5, 0, none⟩) 2 c5, .slice (some ⟨a6, 0, none⟩) 2 c6, .slice A7 0 c7, .slice A8 0 c8, .slice A9 0 c9] 27 (0, 0)))) (b3 : Aside0 (Kd.R k56 56 w' w.heap.size (fun _ => True) (.slice (some ⟨a1, 0, none⟩) 2 c1) shK)) (b4 : Aside0 (Kd.R k54 54 w' w.heap.size (fun _ => True) (.slice (some ⟨a2, 0, none⟩) 2 c2) shJ)) (b5 : Aside0 (Kd.R k56 56 w' w.heap.size (fun _ => True) (.slice (some ⟨a5, 0, none⟩) 2 c5) shK)) (b6 : Aside0 (Kd.R k54 54 w' w.heap.size (fun _ => True) (.slice (some ⟨a6, 0, none⟩) 2 c6) shJ)) (b7 : Aside0 (Below w.heap.size w w')) : w'.cell? ⟨g1, 0, none⟩ = some (.slice (some ⟨a1, 0, none⟩) 2 c1) ∧ w'.cell? ⟨g1, 1, none⟩ = some (.slice (some ⟨a2, 0, none⟩) 2 c2) ∧ w'.cell? ⟨g1, 2, none⟩ = some (.slice none 0 0) ∧ w'.cell? ⟨g1, 3, none⟩ = some (.slice none 0 0) ∧ w'.cell? ⟨g1, 4, none⟩ = some (.slice none 0 0) ∧ w'.cell? ⟨g3, 6, none⟩ = some (.int .i64 5) ∧ w'.cell? ⟨g5, 0, none⟩ = some (.slice (some ⟨a5, 0, none⟩) 2 c5) ∧ w'.cell? ⟨g5, 1, none⟩ = some (.slice (some ⟨a6, 0, none⟩) 2 c6) ∧ w'.cell? ⟨a1, 3, none⟩ = some (.int .i64 3600) ∧ w'.cell? ⟨a1, 4, none⟩ = some (.bool true) ∧ w'.cell? ⟨a1, 5, none⟩ = some (.string ⟨#[66, 67]⟩) ∧ w'.cell? ⟨a5, 3, none⟩ = some (.int .i64 3600) ∧ w'.cell? ⟨a5, 4, none⟩ = some (.bool true) ∧ w'.cell? ⟨a5, 5, none⟩ = some (.string ⟨#[66, 67]⟩) ∧ w'.cell? ⟨a2, 0, none⟩ = some (.int .i64 (-9)) ∧ w'.cell? ⟨a2, 1, none⟩ = some (.int .i64 1) ∧ w'.cell? ⟨a6, 0, none⟩ = some (.int .i64 (-9)) ∧ w'.cell? ⟨a6, 1, none⟩ = some (.int .i64 1) ∧ Aside0 (w'.heap[g1]? = some (.cells #[.slice (some ⟨a1, 0, none⟩) 2 c1, .slice (some ⟨a2, 0, none⟩) 2 c2, .slice none 0 0, .slice none 0 0, .slice none 0 0] 27 (0, 0))) ∧ Aside0 (w'.heap[g3]? = some (.cells #[.int .i64 1, .int .i64 0, .int .i64 0, .int .i64 0, .int .i64 2, .int .i64 2, .int .i64 5] 35 (0, 0))) ∧ Aside0 (w'.heap[g5]? = some (.cells #[.slice (some ⟨a5, 0, none⟩) 2 c5, .slice (some ⟨a6, 0, none⟩) 2 c6, .slice A7 0 c7, .slice A8 0 c8, .slice A9 0 c9] 27 (0, 0))) ∧ Aside0 (Kd.R k56 56 w' w.heap.size (fun _ => True) (.slice (some ⟨a1, 0, none⟩) 2 c1) shK) ∧ Aside0 (Kd.R k54 54 w' w.heap.size (fun _ => True) (.slice (some ⟨a2, 0, none⟩) 2 c2) shJ) ∧ Aside0 (Kd.R k56 56 w' w.heap.size (fun _ => True) (.slice (some ⟨a5, 0, none⟩) 2 c5) shK) ∧ Aside0 (Kd.R k54 54 w' w.heap.size (fun _ => True) (.slice (some ⟨a6, 0, none⟩) 2 c6) shJ) ∧ Aside0 (Below w.heap.size w w') :=
 ⟨(blk_cell b0.out 0).trans rfl, (blk_cell b0.out 1).trans rfl, (blk_cell b0.out 2).trans rfl, (blk_cell b0.out 3).trans rfl, (blk_cell b0.out 4).trans rfl, (blk_cell b1.out 6).trans rfl, (blk_cell b2.out 0).trans rfl, (blk_cell b2.out 1).trans rfl, (sh_kind b3.out).1, (sh_kind b3.out).2.1, (sh_kind b3.out).2.2, (sh_kind b5.out).1, (sh_kind b5.out).2.1, (sh_kind b5.out).2.2, (sh_jump b4.out).1, (sh_jump b4.out).2, (sh_jump b6.out).1, (sh_jump b6.out).2, b0, b1, b2, b3, b4, b5, b6, b7⟩
set_option maxHeartbeats 4000000 in
set_option maxRecDepth 100000 in
theorem shown_walk (w : World) : Calls Try.prog 11 #[] w fun e w' => e = .returned (.bool true) ∧ Below w.heap.size w w' := by
 have hu27 := Try.underlying27
 have hu35 := Try.underlying35
 have hu56 := Try.underlying56
 have hu54 := Try.underlying54
 have HB := Aside0.mk (Below.refl w.heap.size w)
 go_enter Try.func11, Try.ntmps11
 go_upto_region 2 with (first
  | ((with_reducible refine gate_dst (N := 14) rfl ?_); refine Kd.R_lit k56 _ 56 ?hg (N := 14) ?hd (xs := shK) (inner := [.int .i64 (-5), .bool false, .string (⟨#[65]⟩ : ByteArray), .int .i64 3600, .bool true, .string (⟨#[66, 67]⟩ : ByteArray)]) (ok := fun _ => True) (okp := fun _ => True) ?hr ?hp (fun _ hk => hk) trivial (Below.refl _ _) (Nat.le_refl _) (by simp [shK]) ?_; (case hd => rfl); (case hg => rfl); (case hr => first | (go_simp; done) | (go_simp; rfl)); (case hp => exact (Reps.c3 (show Kd.M k56 _ _ _ (⟨(-5), false, (⟨#[65]⟩ : ByteArray)⟩ : S56) _ from (k56_mkM _ _ _ _)) (Reps.c3 (show Kd.M k56 _ _ _ (⟨3600, true, (⟨#[66, 67]⟩ : ByteArray)⟩ : S56) _ from (k56_mkM _ _ _ _)) (Reps.none _ _)))); intro v1 w1 ho hb hg_ hnew_; clear hg_ hnew_; obtain ⟨A1, c1, rfl⟩ := R_len 2 rfl ho; have HK := Aside0.mk ho; clear ho; have n0_ := Aside0.mk (below_step HB.out hb); clear HB; have HB := n0_; clear n0_ hb)
  | ((with_reducible refine gate_dst (N := 17) rfl ?_); refine Kd.R_lit k54 _ 54 ?hg (N := 17) ?hd (xs := shJ) (inner := [.int .i64 (-9), .int .i64 1, .int .i64 7, .int .i64 0]) (ok := fun _ => True) (okp := fun _ => True) ?hr ?hp (fun _ hk => hk) trivial (Below.refl _ _) (Nat.le_refl _) (by simp [shJ]) ?_; (case hd => rfl); (case hg => rfl); (case hr => first | (go_simp; done) | (go_simp; rfl)); (case hp => exact (Reps.c2 (show Kd.M k54 _ _ _ (⟨-9, 1⟩ : S54) _ from (k54_mkM _ _ _ _)) (Reps.c2 (show Kd.M k54 _ _ _ (⟨7, 0⟩ : S54) _ from (k54_mkM _ _ _ _)) (Reps.none _ _)))); intro v2 w2 ho hb hg_ hnew_; clear hg_ hnew_; obtain ⟨A2, c2, rfl⟩ := R_len 2 rfl ho; have HJ := Aside0.mk (Kd.R_lower ho (below_size HB.out)); clear ho; have n0_ := Aside0.mk (Kd.R_below HK.out hb); have n1_ := Aside0.mk (below_step HB.out hb); clear HK HB; have HK := n0_; have HB := n1_; clear n0_ n1_ hb)
  | ((with_reducible refine gate_dst (N := 1) rfl ?_); refine box_event ?hg (N := 1) ?hd (cs := #[.slice none 0 0, .slice none 0 0, .slice none 0 0, .slice none 0 0, .slice none 0 0]) (t := 27) ?hr ?_; (case hd => rfl); (case hg => rfl); (case hr => first | (go_simp; done) | (go_simp; rfl)); intro g1 hg w_g1 hbox hb; have Bg1 := Aside0.mk hbox; have GEg1 := Aside0.mk (show w.heap.size ≤ g1 by first | omega | (have h_ := below_size HB.out; omega)); clear hbox hg; have n0_ := Aside0.mk (Kd.R_below HK.out hb); have n1_ := Aside0.mk (Kd.R_below HJ.out hb); have n2_ := Aside0.mk (below_step HB.out hb); clear HK HJ HB; have HK := n0_; have HJ := n1_; have HB := n2_; clear n0_ n1_ n2_ hb; obtain ⟨z0, z1, z2, z3, z4⟩ := Sq.c5 Bg1; have y0 := blk_frozen Bg1.out 0; have y1 := blk_frozen Bg1.out 1; have y2 := blk_frozen Bg1.out 2; have y3 := blk_frozen Bg1.out 3; have y4 := blk_frozen Bg1.out 4))
 refine forget_wp (fun wc => Aside0 (wc.heap[g1]? = some (.cells #[.slice A1 2 c1, .slice A2 2 c2, .slice none 0 0, .slice none 0 0, .slice none 0 0] 27 (0, 0))) ∧ Aside0 (Kd.R k56 56 wc w.heap.size (fun _ => True) (.slice A1 2 c1) shK) ∧ Aside0 (Kd.R k54 54 wc w.heap.size (fun _ => True) (.slice A2 2 c2) shJ) ∧ Aside0 (Below w.heap.size w wc)) ⟨⟨put5_at Bg1.out⟩, ⟨put5_R HK.out Bg1.out (by decide)⟩, ⟨put5_R HJ.out Bg1.out (by decide)⟩, ⟨put5_below HB.out GEg1.out⟩⟩ ?_
 clear Bg1 HK HJ HB z0 z1 z2 z3 z4 y0 y1 y2 y3 y4
 rintro w3 ⟨B1, HK, HJ, HB⟩
 obtain ⟨s0, s1, s2, s3, s4⟩ := Sq.c5 B1
 go_upto_region 3 with (first
  | (go_at_call 15; (with_reducible refine (shc1 _ HK.out HJ.out).mono ?_); rintro e w4 ⟨v4, rfl, ho, hb⟩; obtain ⟨A3, c3, rfl⟩ := R_len 27 sh_len ho; have HD := Aside0.mk (Kd.R_lower ho (below_size HB.out)); clear ho; have n0_ := Aside0.mk (blk_below B1.out hb); have n1_ := Aside0.mk (Kd.R_below HK.out hb); have n2_ := Aside0.mk (Kd.R_below HJ.out hb); have n3_ := Aside0.mk (below_step HB.out hb); clear B1 HK HJ HB; have B1 := n0_; have HK := n1_; have HJ := n2_; have HB := n3_; clear n0_ n1_ n2_ n3_ hb)
  | ((with_reducible refine gate_dst (N := 3) rfl ?_); refine box_event ?hg (N := 3) ?hd (cs := #[.int .i64 0, .int .i64 0, .int .i64 0, .int .i64 0, .int .i64 0, .int .i64 0, .int .i64 0]) (t := 35) ?hr ?_; (case hd => rfl); (case hg => rfl); (case hr => first | (go_simp; done) | (go_simp; rfl)); intro g3 hg w_g3 hbox hb; have Bg3 := Aside0.mk hbox; have GEg3 := Aside0.mk (show w.heap.size ≤ g3 by first | omega | (have h_ := below_size HB.out; omega)); clear hbox hg; have n0_ := Aside0.mk (blk_below B1.out hb); have n1_ := Aside0.mk (Kd.R_below HK.out hb); have n2_ := Aside0.mk (Kd.R_below HJ.out hb); have n3_ := Aside0.mk (Kd.R_below HD.out hb); have n4_ := Aside0.mk (below_step HB.out hb); clear B1 HK HJ HD HB; have B1 := n0_; have HK := n1_; have HJ := n2_; have HD := n3_; have HB := n4_; clear n0_ n1_ n2_ n3_ n4_ hb; obtain ⟨z0, z1, z2, z3, z4, z5, z6⟩ := Sq.c7 Bg3; have y0 := blk_frozen Bg3.out 0; have y1 := blk_frozen Bg3.out 1; have y2 := blk_frozen Bg3.out 2; have y3 := blk_frozen Bg3.out 3; have y4 := blk_frozen Bg3.out 4; have y5 := blk_frozen Bg3.out 5; have y6 := blk_frozen Bg3.out 6; have NE13 := Aside0.mk (blk_ne B1.out Bg3.out (by decide))))
 refine forget_wp (fun wc => Aside0 (wc.heap[g1]? = some (.cells #[.slice A1 2 c1, .slice A2 2 c2, .slice none 0 0, .slice none 0 0, .slice none 0 0] 27 (0, 0))) ∧ Aside0 (wc.heap[g3]? = some (.cells #[.int .i64 1, .int .i64 0, .int .i64 0, .int .i64 0, .int .i64 2, .int .i64 2, .int .i64 5] 35 (0, 0))) ∧ Aside0 (Kd.R k56 56 wc w.heap.size (fun _ => True) (.slice A1 2 c1) shK) ∧ Aside0 (Kd.R k54 54 wc w.heap.size (fun _ => True) (.slice A2 2 c2) shJ) ∧ Aside0 (Kd.R (Kd.int .u8) 5 wc w.heap.size (fun _ => True) (.slice A3 27 c3) shB) ∧ Aside0 (Below w.heap.size w wc)) ⟨⟨put7_far B1.out NE13.out⟩, ⟨put7_at Bg3.out⟩, ⟨put7_R HK.out Bg3.out (by decide)⟩, ⟨put7_R HJ.out Bg3.out (by decide)⟩, ⟨put7_R HD.out Bg3.out (by decide)⟩, ⟨put7_below HB.out GEg3.out⟩⟩ ?_
 clear B1 Bg3 HK HJ HD HB s0 s1 s2 s3 s4 z0 z1 z2 z3 z4 z5 z6 y0 y1 y2 y3 y4 y5 y6
 rintro w5 ⟨B1, B3, HK, HJ, HD, HB⟩
 obtain ⟨s0, s1, s2, s3, s4, s5, s6⟩ := Sq.c7 B3
 go_upto_region 4 with (first
  | (go_at_call 21; (with_reducible refine (shc2 _ HD.out).mono ?_); rintro e w6 ⟨v10, v11, v12, v13, v14, rfl, ho0, ho1, ho2, ho3, ho4, hb⟩; obtain ⟨A5, c5, rfl⟩ := R_len 2 rfl ho0; obtain ⟨A6, c6, rfl⟩ := R_len 2 rfl ho1; obtain ⟨A7, c7, rfl⟩ := R_len 0 rfl ho2; obtain ⟨A8, c8, rfl⟩ := R_len 0 rfl ho3; obtain ⟨A9, c9, rfl⟩ := R_len 0 rfl ho4; have HK2 := Aside0.mk (Kd.R_lower ho0 (below_size HB.out)); have HJ2 := Aside0.mk (Kd.R_lower ho1 (below_size HB.out)); clear ho0 ho1 ho2 ho3 ho4 HD; have n0_ := Aside0.mk (blk_below B1.out hb); have n1_ := Aside0.mk (blk_below B3.out hb); have n2_ := Aside0.mk (Kd.R_below HK.out hb); have n3_ := Aside0.mk (Kd.R_below HJ.out hb); have n4_ := Aside0.mk (below_step HB.out hb); clear B1 B3 HK HJ HB; have B1 := n0_; have B3 := n1_; have HK := n2_; have HJ := n3_; have HB := n4_; clear n0_ n1_ n2_ n3_ n4_ hb)
  | ((with_reducible refine gate_dst (N := 5) rfl ?_); refine box_event ?hg (N := 5) ?hd (cs := #[.slice none 0 0, .slice none 0 0, .slice none 0 0, .slice none 0 0, .slice none 0 0]) (t := 27) ?hr ?_; (case hd => rfl); (case hg => rfl); (case hr => first | (go_simp; done) | (go_simp; rfl)); intro g5 hg w_g5 hbox hb; have Bg5 := Aside0.mk hbox; have GEg5 := Aside0.mk (show w.heap.size ≤ g5 by first | omega | (have h_ := below_size HB.out; omega)); have NE15 := Aside0.mk (show g1 ≠ g5 by have := blk_lt B1.out; omega); clear hbox hg; have n0_ := Aside0.mk (blk_below B1.out hb); have n1_ := Aside0.mk (blk_below B3.out hb); have n2_ := Aside0.mk (Kd.R_below HK.out hb); have n3_ := Aside0.mk (Kd.R_below HJ.out hb); have n4_ := Aside0.mk (Kd.R_below HK2.out hb); have n5_ := Aside0.mk (Kd.R_below HJ2.out hb); have n6_ := Aside0.mk (below_step HB.out hb); clear B1 B3 HK HJ HK2 HJ2 HB; have B1 := n0_; have B3 := n1_; have HK := n2_; have HJ := n3_; have HK2 := n4_; have HJ2 := n5_; have HB := n6_; clear n0_ n1_ n2_ n3_ n4_ n5_ n6_ hb; obtain ⟨z0, z1, z2, z3, z4⟩ := Sq.c5 Bg5; have y0 := blk_frozen Bg5.out 0; have y1 := blk_frozen Bg5.out 1; have y2 := blk_frozen Bg5.out 2; have y3 := blk_frozen Bg5.out 3; have y4 := blk_frozen Bg5.out 4; have NE35 := Aside0.mk (blk_ne B3.out Bg5.out (by decide))))
 have B5 := Bg5
 refine forget_wp (fun wc => Aside0 (wc.heap[g1]? = some (.cells #[.slice A1 2 c1, .slice A2 2 c2, .slice none 0 0, .slice none 0 0, .slice none 0 0] 27 (0, 0))) ∧ Aside0 (wc.heap[g3]? = some (.cells #[.int .i64 1, .int .i64 0, .int .i64 0, .int .i64 0, .int .i64 2, .int .i64 2, .int .i64 5] 35 (0, 0))) ∧ Aside0 (wc.heap[g5]? = some (.cells #[.slice A5 2 c5, .slice A6 2 c6, .slice A7 0 c7, .slice A8 0 c8, .slice A9 0 c9] 27 (0, 0))) ∧ Aside0 (Kd.R k56 56 wc w.heap.size (fun _ => True) (.slice A1 2 c1) shK) ∧ Aside0 (Kd.R k54 54 wc w.heap.size (fun _ => True) (.slice A2 2 c2) shJ) ∧ Aside0 (Kd.R k56 56 wc w.heap.size (fun _ => True) (.slice A5 2 c5) shK) ∧ Aside0 (Kd.R k54 54 wc w.heap.size (fun _ => True) (.slice A6 2 c6) shJ) ∧ Aside0 (Below w.heap.size w wc)) ⟨⟨put5_far B1.out NE15.out⟩, ⟨put5_far B3.out NE35.out⟩, ⟨put5_at Bg5.out⟩, ⟨put5_R HK.out Bg5.out (by decide)⟩, ⟨put5_R HJ.out Bg5.out (by decide)⟩, ⟨put5_R HK2.out Bg5.out (by decide)⟩, ⟨put5_R HJ2.out Bg5.out (by decide)⟩, ⟨put5_below HB.out GEg5.out⟩⟩ ?_
 clear B1 B3 B5 HK HJ HK2 HJ2 HB Bg5 s0 s1 s2 s3 s4 s5 s6 z0 z1 z2 z3 z4 y0 y1 y2 y3 y4
 rintro w7 ⟨B1, B3, B5, HK, HJ, HK2, HJ2, HB⟩
 go_upto_region 5 with (first
  | (go_at_call 15; (with_reducible refine (shc3 _).mono ?_); rintro e w8 ⟨v8, rfl, ho, hb⟩; obtain ⟨A10, c10, rfl⟩ := R_len 0 rfl ho; clear ho; have n0_ := Aside0.mk (blk_below B1.out hb); have n1_ := Aside0.mk (blk_below B3.out hb); have n2_ := Aside0.mk (blk_below B5.out hb); have n3_ := Aside0.mk (Kd.R_below HK.out hb); have n4_ := Aside0.mk (Kd.R_below HJ.out hb); have n5_ := Aside0.mk (Kd.R_below HK2.out hb); have n6_ := Aside0.mk (Kd.R_below HJ2.out hb); have n7_ := Aside0.mk (below_step HB.out hb); clear B1 B3 B5 HK HJ HK2 HJ2 HB; have B1 := n0_; have B3 := n1_; have B5 := n2_; have HK := n3_; have HJ := n4_; have HK2 := n5_; have HJ2 := n6_; have HB := n7_; clear n0_ n1_ n2_ n3_ n4_ n5_ n6_ n7_ hb)
  | ((with_reducible refine gate_dst (N := 8) rfl ?_); refine box_event ?hg (N := 8) ?hd (cs := #[.int .i64 0, .int .i64 0, .int .i64 0, .int .i64 0, .int .i64 0, .int .i64 0, .int .i64 0]) (t := 35) ?hr ?_; (case hd => rfl); (case hg => rfl); (case hr => first | (go_simp; done) | (go_simp; rfl)); intro g8 hg w_g8 hbox hb; have Bg8 := Aside0.mk hbox; have GEg8 := Aside0.mk (show w.heap.size ≤ g8 by first | omega | (have h_ := below_size HB.out; omega)); have NE38 := Aside0.mk (show g3 ≠ g8 by have := blk_lt B3.out; omega); clear hbox hg; have n0_ := Aside0.mk (blk_below B1.out hb); have n1_ := Aside0.mk (blk_below B3.out hb); have n2_ := Aside0.mk (blk_below B5.out hb); have n3_ := Aside0.mk (Kd.R_below HK.out hb); have n4_ := Aside0.mk (Kd.R_below HJ.out hb); have n5_ := Aside0.mk (Kd.R_below HK2.out hb); have n6_ := Aside0.mk (Kd.R_below HJ2.out hb); have n7_ := Aside0.mk (below_step HB.out hb); clear B1 B3 B5 HK HJ HK2 HJ2 HB; have B1 := n0_; have B3 := n1_; have B5 := n2_; have HK := n3_; have HJ := n4_; have HK2 := n5_; have HJ2 := n6_; have HB := n7_; clear n0_ n1_ n2_ n3_ n4_ n5_ n6_ n7_ hb; obtain ⟨z0, z1, z2, z3, z4, z5, z6⟩ := Sq.c7 Bg8; have y0 := blk_frozen Bg8.out 0; have y1 := blk_frozen Bg8.out 1; have y2 := blk_frozen Bg8.out 2; have y3 := blk_frozen Bg8.out 3; have y4 := blk_frozen Bg8.out 4; have y5 := blk_frozen Bg8.out 5; have y6 := blk_frozen Bg8.out 6; have NE18 := Aside0.mk (blk_ne B1.out Bg8.out (by decide)); have NE58 := Aside0.mk (blk_ne B5.out Bg8.out (by decide))))
 refine forget_wp (fun wc => Aside0 (wc.heap[g1]? = some (.cells #[.slice A1 2 c1, .slice A2 2 c2, .slice none 0 0, .slice none 0 0, .slice none 0 0] 27 (0, 0))) ∧ Aside0 (wc.heap[g3]? = some (.cells #[.int .i64 1, .int .i64 0, .int .i64 0, .int .i64 0, .int .i64 2, .int .i64 2, .int .i64 5] 35 (0, 0))) ∧ Aside0 (wc.heap[g5]? = some (.cells #[.slice A5 2 c5, .slice A6 2 c6, .slice A7 0 c7, .slice A8 0 c8, .slice A9 0 c9] 27 (0, 0))) ∧ Aside0 (Kd.R k56 56 wc w.heap.size (fun _ => True) (.slice A1 2 c1) shK) ∧ Aside0 (Kd.R k54 54 wc w.heap.size (fun _ => True) (.slice A2 2 c2) shJ) ∧ Aside0 (Kd.R k56 56 wc w.heap.size (fun _ => True) (.slice A5 2 c5) shK) ∧ Aside0 (Kd.R k54 54 wc w.heap.size (fun _ => True) (.slice A6 2 c6) shJ) ∧ Aside0 (Below w.heap.size w wc)) ⟨⟨put7_far B1.out NE18.out⟩, ⟨put7_far B3.out NE38.out⟩, ⟨put7_far B5.out NE58.out⟩, ⟨put7_R HK.out Bg8.out (by decide)⟩, ⟨put7_R HJ.out Bg8.out (by decide)⟩, ⟨put7_R HK2.out Bg8.out (by decide)⟩, ⟨put7_R HJ2.out Bg8.out (by decide)⟩, ⟨put7_below HB.out GEg8.out⟩⟩ ?_
 clear B1 B3 B5 HK HJ HK2 HJ2 HB Bg8 z0 z1 z2 z3 z4 z5 z6 y0 y1 y2 y3 y4 y5 y6
 rintro w9 ⟨B1, B3, B5, HK, HJ, HK2, HJ2, HB⟩
 obtain ⟨s0, s1, s2, s3, s4, s5, s6⟩ := Sq.c7 B3
 go_upto_region 6 with (first
  | (go_at_call 21; (with_reducible refine (shc4 _).mono ?_); rintro e w10 ⟨v20, v21, v22, v23, v24, rfl, ho0, ho1, ho2, ho3, ho4, hb⟩; obtain ⟨A20, c20, rfl⟩ := R_len 0 rfl ho0; obtain ⟨A21, c21, rfl⟩ := R_len 0 rfl ho1; obtain ⟨A22, c22, rfl⟩ := R_len 0 rfl ho2; obtain ⟨A23, c23, rfl⟩ := R_len 0 rfl ho3; obtain ⟨A24, c24, rfl⟩ := R_len 0 rfl ho4; clear ho0 ho1 ho2 ho3 ho4; have n0_ := Aside0.mk (blk_below B1.out hb); have n1_ := Aside0.mk (blk_below B3.out hb); have n2_ := Aside0.mk (blk_below B5.out hb); have n3_ := Aside0.mk (Kd.R_below HK.out hb); have n4_ := Aside0.mk (Kd.R_below HJ.out hb); have n5_ := Aside0.mk (Kd.R_below HK2.out hb); have n6_ := Aside0.mk (Kd.R_below HJ2.out hb); have n7_ := Aside0.mk (below_step HB.out hb); clear B1 B3 B5 HK HJ HK2 HJ2 HB; have B1 := n0_; have B3 := n1_; have B5 := n2_; have HK := n3_; have HJ := n4_; have HK2 := n5_; have HJ2 := n6_; have HB := n7_; clear n0_ n1_ n2_ n3_ n4_ n5_ n6_ n7_ hb)
  | ((with_reducible refine gate_dst (N := 10) rfl ?_); refine box_event ?hg (N := 10) ?hd (cs := #[.slice none 0 0, .slice none 0 0, .slice none 0 0, .slice none 0 0, .slice none 0 0]) (t := 27) ?hr ?_; (case hd => rfl); (case hg => rfl); (case hr => first | (go_simp; done) | (go_simp; rfl)); intro g10 hg w_g10 hbox hb; have Bg10 := Aside0.mk hbox; have GEg10 := Aside0.mk (show w.heap.size ≤ g10 by first | omega | (have h_ := below_size HB.out; omega)); have NE1 := Aside0.mk (show g1 ≠ g10 by have := blk_lt B1.out; omega); have NE5 := Aside0.mk (show g5 ≠ g10 by have := blk_lt B5.out; omega); clear hbox hg; have n0_ := Aside0.mk (blk_below B1.out hb); have n1_ := Aside0.mk (blk_below B3.out hb); have n2_ := Aside0.mk (blk_below B5.out hb); have n3_ := Aside0.mk (Kd.R_below HK.out hb); have n4_ := Aside0.mk (Kd.R_below HJ.out hb); have n5_ := Aside0.mk (Kd.R_below HK2.out hb); have n6_ := Aside0.mk (Kd.R_below HJ2.out hb); have n7_ := Aside0.mk (below_step HB.out hb); clear B1 B3 B5 HK HJ HK2 HJ2 HB; have B1 := n0_; have B3 := n1_; have B5 := n2_; have HK := n3_; have HJ := n4_; have HK2 := n5_; have HJ2 := n6_; have HB := n7_; clear n0_ n1_ n2_ n3_ n4_ n5_ n6_ n7_ hb; obtain ⟨z0, z1, z2, z3, z4⟩ := Sq.c5 Bg10; have y0 := blk_frozen Bg10.out 0; have y1 := blk_frozen Bg10.out 1; have y2 := blk_frozen Bg10.out 2; have y3 := blk_frozen Bg10.out 3; have y4 := blk_frozen Bg10.out 4; have NE3 := Aside0.mk (blk_ne B3.out Bg10.out (by decide))))
 refine forget_wp (fun wc => Aside0 (wc.heap[g1]? = some (.cells #[.slice A1 2 c1, .slice A2 2 c2, .slice none 0 0, .slice none 0 0, .slice none 0 0] 27 (0, 0))) ∧ Aside0 (wc.heap[g3]? = some (.cells #[.int .i64 1, .int .i64 0, .int .i64 0, .int .i64 0, .int .i64 2, .int .i64 2, .int .i64 5] 35 (0, 0))) ∧ Aside0 (wc.heap[g5]? = some (.cells #[.slice A5 2 c5, .slice A6 2 c6, .slice A7 0 c7, .slice A8 0 c8, .slice A9 0 c9] 27 (0, 0))) ∧ Aside0 (Kd.R k56 56 wc w.heap.size (fun _ => True) (.slice A1 2 c1) shK) ∧ Aside0 (Kd.R k54 54 wc w.heap.size (fun _ => True) (.slice A2 2 c2) shJ) ∧ Aside0 (Kd.R k56 56 wc w.heap.size (fun _ => True) (.slice A5 2 c5) shK) ∧ Aside0 (Kd.R k54 54 wc w.heap.size (fun _ => True) (.slice A6 2 c6) shJ) ∧ Aside0 (Below w.heap.size w wc)) ⟨⟨put5_far B1.out NE1.out⟩, ⟨put5_far B3.out NE3.out⟩, ⟨put5_far B5.out NE5.out⟩, ⟨put5_R HK.out Bg10.out (by decide)⟩, ⟨put5_R HJ.out Bg10.out (by decide)⟩, ⟨put5_R HK2.out Bg10.out (by decide)⟩, ⟨put5_R HJ2.out Bg10.out (by decide)⟩, ⟨put5_below HB.out GEg10.out⟩⟩ ?_
 clear B1 B3 B5 HK HJ HK2 HJ2 HB Bg10 s0 s1 s2 s3 s4 s5 s6 z0 z1 z2 z3 z4 y0 y1 y2 y3 y4
 rintro w11 ⟨B1, B3, B5, HK, HJ, HK2, HJ2, HB⟩
 obtain ⟨a1, rfl⟩ := R_form2 HK.out (by decide)
 obtain ⟨a2, rfl⟩ := R_form2 HJ.out (by decide)
 obtain ⟨a5, rfl⟩ := R_form2 HK2.out (by decide)
 obtain ⟨a6, rfl⟩ := R_form2 HJ2.out (by decide)
 have hE := fun d w => eqK_self d w 3600 true ⟨#[66, 67]⟩
 have hE2 := fun d w => eqJ_self d w (-9) 1
 clear NE1 NE3 NE5 NE13 NE15 NE35 NE18 NE38 NE58 GEg1 GEg3 GEg5 GEg8 GEg10
 go_region_held (fun w' => w'.cell? ⟨g1, 0, none⟩ = some (.slice (some ⟨a1, 0, none⟩) 2 c1) ∧ w'.cell? ⟨g1, 1, none⟩ = some (.slice (some ⟨a2, 0, none⟩) 2 c2) ∧ w'.cell? ⟨g1, 2, none⟩ = some (.slice none 0 0) ∧ w'.cell? ⟨g1, 3, none⟩ = some (.slice none 0 0) ∧ w'.cell? ⟨g1, 4, none⟩ = some (.slice none 0 0) ∧ w'.cell? ⟨g3, 6, none⟩ = some (.int .i64 5) ∧ w'.cell? ⟨g5, 0, none⟩ = some (.slice (some ⟨a5, 0, none⟩) 2 c5) ∧ w'.cell? ⟨g5, 1, none⟩ = some (.slice (some ⟨a6, 0, none⟩) 2 c6) ∧ w'.cell? ⟨a1, 3, none⟩ = some (.int .i64 3600) ∧ w'.cell? ⟨a1, 4, none⟩ = some (.bool true) ∧ w'.cell? ⟨a1, 5, none⟩ = some (.string ⟨#[66, 67]⟩) ∧ w'.cell? ⟨a5, 3, none⟩ = some (.int .i64 3600) ∧ w'.cell? ⟨a5, 4, none⟩ = some (.bool true) ∧ w'.cell? ⟨a5, 5, none⟩ = some (.string ⟨#[66, 67]⟩) ∧ w'.cell? ⟨a2, 0, none⟩ = some (.int .i64 (-9)) ∧ w'.cell? ⟨a2, 1, none⟩ = some (.int .i64 1) ∧ w'.cell? ⟨a6, 0, none⟩ = some (.int .i64 (-9)) ∧ w'.cell? ⟨a6, 1, none⟩ = some (.int .i64 1) ∧ Aside0 (w'.heap[g1]? = some (.cells #[.slice (some ⟨a1, 0, none⟩) 2 c1, .slice (some ⟨a2, 0, none⟩) 2 c2, .slice none 0 0, .slice none 0 0, .slice none 0 0] 27 (0, 0))) ∧ Aside0 (w'.heap[g3]? = some (.cells #[.int .i64 1, .int .i64 0, .int .i64 0, .int .i64 0, .int .i64 2, .int .i64 2, .int .i64 5] 35 (0, 0))) ∧ Aside0 (w'.heap[g5]? = some (.cells #[.slice (some ⟨a5, 0, none⟩) 2 c5, .slice (some ⟨a6, 0, none⟩) 2 c6, .slice A7 0 c7, .slice A8 0 c8, .slice A9 0 c9] 27 (0, 0))) ∧ Aside0 (Kd.R k56 56 w' w.heap.size (fun _ => True) (.slice (some ⟨a1, 0, none⟩) 2 c1) shK) ∧ Aside0 (Kd.R k54 54 w' w.heap.size (fun _ => True) (.slice (some ⟨a2, 0, none⟩) 2 c2) shJ) ∧ Aside0 (Kd.R k56 56 w' w.heap.size (fun _ => True) (.slice (some ⟨a5, 0, none⟩) 2 c5) shK) ∧ Aside0 (Kd.R k54 54 w' w.heap.size (fun _ => True) (.slice (some ⟨a6, 0, none⟩) 2 c6) shJ) ∧ Aside0 (Below w.heap.size w w'))
  (first | assumption | exact sh_S ⟨blk_drew B1.out⟩ ⟨blk_drew B3.out⟩ ⟨blk_drew B5.out⟩ ⟨Kd.R_drew HK.out⟩ ⟨Kd.R_drew HJ.out⟩ ⟨Kd.R_drew HK2.out⟩ ⟨Kd.R_drew HJ2.out⟩ ⟨below_drew1 HB.out⟩ | exact sh_S (by assumption) (by assumption) (by assumption) (by assumption) (by assumption) (by assumption) (by assumption) (by assumption))
  ((go_at_call 16; (with_reducible refine (shc5 _ (Kd.R_drew HK.out) (Kd.R_drew HJ.out)).mono ?_); rintro e wn ⟨rfl, hb⟩; have n1_ := Aside0.mk (blk_below (blk_drew B1.out) hb); have n2_ := Aside0.mk (blk_below (blk_drew B3.out) hb); have n3_ := Aside0.mk (blk_below (blk_drew B5.out) hb); have n4_ := Aside0.mk (Kd.R_below (Kd.R_drew HK.out) hb); have n5_ := Aside0.mk (Kd.R_below (Kd.R_drew HJ.out) hb); have n6_ := Aside0.mk (Kd.R_below (Kd.R_drew HK2.out) hb); have n7_ := Aside0.mk (Kd.R_below (Kd.R_drew HJ2.out) hb); have n8_ := Aside0.mk (below_step (below_drew1 HB.out) hb)))
 all_goals
  go_wp2
  go_ret
  exact ⟨rfl, Aside0.out (by assumption)⟩
end Go.Proofs.Ythobnoknbdljgaa.Hand
namespace Go.Proofs.Ythobnoknbdljgaa.Stub2
open Go.RowKit Hand
def longcaselaw06_shown.f : Option Bool := some true
theorem longcaselaw06_shown.calls (r : Bool) (w : World) (h : longcaselaw06_shown.f = some r) :
  Calls Try.prog 11 #[] w fun e w' => e = .returned (.bool r) ∧ Below w.heap.size w w' := by
 obtain rfl := Option.some.inj h
 exact shown_walk w
end Go.Proofs.Ythobnoknbdljgaa.Stub2
end
section
namespace Go.Proofs.Ythobnoknbdljgaa.PM
open Go.Proofs.Ythobnoknbdljgaa.PB0 Sq
open Go.RowKit Go.Proofs.YthobnoknbdljgaaW.PrintWords Go.Proofs.YthobnoknbdljgaaW.PrintLast Go.Proofs.YthobnoknbdljgaaW.PrintMore
attribute [local go_sem] max2_int min2_int max_two min_two
set_option linter.unusedVariables false
set_option linter.unusedSimpArgs false
theorem eqA54 (d : Nat) (w : World) (x0 y0 : Int) (x1 y1 : Int) :
  (Op.equalIn (d + 2) 54 (.agg #[.int .i64 x0, .int .i64 x1]) (.agg #[.int .i64 y0, .int .i64 y1])).run Try.prog w = .ok (x0 == y0 && (x1 == y1)) w := by
 refine eqA_of Try.underlying54 (by kernel_rfl) ?_
 refine eqf_cons (by rfl) (by go_simp; rfl) (by go_simp; rfl) (by go_simp) ?_
 exact eqf_last (by rfl) (by go_simp; rfl) (by go_simp; rfl) (by go_simp)
end Go.Proofs.Ythobnoknbdljgaa.PM
end
section
namespace Go.Proofs.Ythobnoknbdljgaa.PM
open Go.Proofs.Ythobnoknbdljgaa.PB0 Sq
open Go.RowKit Go.Proofs.YthobnoknbdljgaaW.PrintWords Go.Proofs.YthobnoknbdljgaaW.PrintLast Go.Proofs.YthobnoknbdljgaaW.PrintMore
attribute [local go_sem] max2_int min2_int max_two min_two
set_option linter.unusedVariables false
set_option linter.unusedSimpArgs false
theorem eqA56 (d : Nat) (w : World) (x0 y0 : Int) (x1 y1 : Bool) (x2 y2 : ByteArray) :
  (Op.equalIn (d + 2) 56 (.agg #[.int .i64 x0, .bool x1, .string x2]) (.agg #[.int .i64 y0, .bool y1, .string y2])).run Try.prog w = .ok (x0 == y0 && (x1 == y1 && (x2.toList == y2.toList))) w := by
 refine eqA_of Try.underlying56 (by kernel_rfl) ?_
 refine eqf_cons (by rfl) (by go_simp; rfl) (by go_simp; rfl) (by go_simp) ?_
 refine eqf_cons (by rfl) (by go_simp; rfl) (by go_simp; rfl) (by go_simp) ?_
 exact eqf_last (by rfl) (by go_simp; rfl) (by go_simp; rfl) (by go_simp)
end Go.Proofs.Ythobnoknbdljgaa.PM
end
section
namespace Go.Proofs.Ythobnoknbdljgaa.PM
open Go.Proofs.Ythobnoknbdljgaa.PB0 Sq
open Go.RowKit Go.Proofs.YthobnoknbdljgaaW.PrintWords Go.Proofs.YthobnoknbdljgaaW.PrintLast Go.Proofs.YthobnoknbdljgaaW.PrintMore
attribute [local go_sem] max2_int min2_int max_two min_two
set_option linter.unusedVariables false
set_option linter.unusedSimpArgs false
theorem eqA67 (d : Nat) (w : World) (x0 y0 : Int) (x1 y1 : Int) :
  (Op.equalIn (d + 2) 67 (.agg #[.int .i64 x0, .int .i64 x1]) (.agg #[.int .i64 y0, .int .i64 y1])).run Try.prog w = .ok (x0 == y0 && (x1 == y1)) w := by
 refine eqA_of Try.underlying67 (by kernel_rfl) ?_
 refine eqf_cons (by rfl) (by go_simp; rfl) (by go_simp; rfl) (by go_simp) ?_
 exact eqf_last (by rfl) (by go_simp; rfl) (by go_simp; rfl) (by go_simp)
end Go.Proofs.Ythobnoknbdljgaa.PM
end
section
namespace Go.Proofs.Ythobnoknbdljgaa.PM
open Go.Proofs.Ythobnoknbdljgaa.PB0 Sq
open Go.RowKit Go.Proofs.YthobnoknbdljgaaW.PrintWords Go.Proofs.YthobnoknbdljgaaW.PrintLast Go.Proofs.YthobnoknbdljgaaW.PrintMore
attribute [local go_sem] max2_int min2_int max_two min_two
set_option linter.unusedVariables false
set_option linter.unusedSimpArgs false
def longcaseref06_bools.l0 : Nat → List Bool → List Bool → Int → Option (Bool)
 | 0, _, _, _ => none
 | k + 1, x0, x1, x5 => if x5 < (x0.length : Int) then (if 0 ≤ x5 then (if x5 < (x1.length : Int) then (if ((rdOf false x0 x5) != (rdOf false x1 x5)) = true then (some false) else (longcaseref06_bools.l0 k x0 x1 (wrap64 (x5 + 1)))) else (none)) else (none)) else (some true)
def longcaseref06_bools.f (k : Nat) (l0 : List Bool) (l1 : List Bool) : Option (Bool) := if (l0.length : Int) = (l1.length : Int) then (longcaseref06_bools.l0 k l0 l1 0) else (some false)
set_option maxHeartbeats 8000000 in
set_option maxRecDepth 100000 in
theorem longcaseref06_bools.calls (k : Nat) (A0 : Option Addr) (c0 : Nat) (l0 : List Bool) (A1 : Option Addr) (c1 : Nat) (l1 : List Bool) (r : Bool) (w : World) (hr0 : Kd.C Kd.bool w A0 l0.length l0) (hc0 : l0.length ≤ c0) (hr1 : Kd.C Kd.bool w A1 l1.length l1) (hc1 : l1.length ≤ c1) (h : longcaseref06_bools.f k l0 l1 = some r) :
  Calls Try.prog 33 #[.slice A0 l0.length c0, .slice A1 l1.length c1] w fun e w' => e = .returned (.bool r) ∧ Drawn0 w w' := by
 have HR0 := Aside0.mk hr0
 have HC0 := Aside0.mk hc0
 clear hr0 hc0
 have HR1 := Aside0.mk hr1
 have HC1 := Aside0.mk hc1
 clear hr1 hc1
 have H : (if (l0.length : Int) = (l1.length : Int) then (longcaseref06_bools.l0 k l0 l1 0) else (some false)) = some r := h
 clear h
 by_cases c3 : (l0.length : Int) = (l1.length : Int)
 rotate_left
 ·
  rw [if_neg c3] at H
  have c3b0 : ((l0.length : Int) == (l1.length : Int)) = false := beq_eq_false_iff_ne.mpr c3
  have c3b1 : ((l0.length : Int) != (l1.length : Int)) = true := bne_iff_ne.mpr c3
  have c3b2 : (l0.length == l1.length) = false := by first | simpa using c3 | (simp at c3 ⊢; omega)
  obtain rfl := Option.some.inj H
  go_enter Try.func33, Try.ntmps33
  go_wp2
  repeat (go_quiet (fail); try go_wp2)
  go_ret
  exact ⟨by first | rfl | (simp; done) | (simp [*]; done), by repeat (first | exact Drawn0.refl _ | apply Drawn0.step)⟩
 rw [if_pos c3] at H
 have c3b0 : ((l0.length : Int) == (l1.length : Int)) = true := beq_iff_eq.mpr c3
 have c3b1 : ((l0.length : Int) != (l1.length : Int)) = false := bne_eq_false_iff_eq.mpr c3
 have c3b2 : (l0.length == l1.length) = true := by first | simpa using c3 | (simp at c3 ⊢; omega)
 clear c3
 have H' := Aside0.mk H
 clear H
 go_enter Try.func33, Try.ntmps33
 go_wp2
 repeat (go_quiet (fail); try go_wp2)
 go_loopg [5] k (fun kq v5 w' => ∃ (x5_1 : Int), v5 = .int .i64 x5_1 ∧ Aside0 (longcaseref06_bools.l0 kq l0 l1 x5_1 = some r) ∧ Aside0 (kq ≤ k) ∧ Drawn0 w w')
 case atStart => exact ⟨(0), (by first | rfl | (simp; done) | (simp [*]; done)), H', ⟨Nat.le_refl _⟩, by repeat (first | exact Drawn0.refl _ | apply Drawn0.step)⟩
 clear H'
 try clear c1
 try clear p2
 try clear c3
 try clear c3b0
 try clear c3b1
 try clear c3b2
 obtain ⟨x5_1, rfl, HA, HK1, ⟨m1, rfl⟩⟩ := hrel
 cases gk with
 | zero => exact absurd HA.out (by simp [longcaseref06_bools.l0])
 | succ k1 =>
  have H := HA.out
  clear HA
  simp only [longcaseref06_bools.l0] at H
  by_cases c4 : x5_1 < (l0.length : Int)
  rotate_left
  ·
   rw [if_neg c4] at H
   have c4b0 : decide (x5_1 < (l0.length : Int)) = false := decide_eq_false c4
   clear c4
   obtain rfl := Option.some.inj H
   go_wp2
   repeat (go_quiet (fail); try go_wp2)
   go_ret
   exact ⟨by first | rfl | (simp; done) | (simp [*]; done), by repeat (first | exact Drawn0.refl _ | apply Drawn0.step)⟩
  rw [if_pos c4] at H
  have c4b0 : decide (x5_1 < (l0.length : Int)) = true := decide_eq_true c4
  clear c4
  by_cases c5 : 0 ≤ x5_1
  rotate_left
  ·
   rw [if_neg c5] at H
   exact absurd H (by simp)
  rw [if_pos c5] at H
  have c5b0 : decide (0 ≤ x5_1) = true := decide_eq_true c5
  clear c5
  by_cases c6 : x5_1 < (l1.length : Int)
  rotate_left
  ·
   rw [if_neg c6] at H
   exact absurd H (by simp)
  rw [if_pos c6] at H
  have c6b0 : decide (x5_1 < (l1.length : Int)) = true := decide_eq_true c6
  clear c6
  by_cases c7 : ((rdOf false l0 x5_1) != (rdOf false l1 x5_1)) = true
  ·
   rw [if_pos c7] at H
   have c7b0 : ((rdOf false l0 x5_1) != (rdOf false l1 x5_1)) = true := c7
   (try (have c7b1 : decide ((rdOf false l0 x5_1) = (rdOf false l1 x5_1)) = false := by simpa using c7))
   (try (have c7b2 : ((rdOf false l0 x5_1) == (rdOf false l1 x5_1)) = false := by simpa using c7))
   (try (have c7b3 : ¬ ((rdOf false l0 x5_1) = (rdOf false l1 x5_1)) := by simpa using c7))
   clear c7
   obtain rfl := Option.some.inj H
   have p101 : 0 ≤ (x5_1 : Int) := of_decide_eq_true (by first | (with_reducible assumption) | assumption)
   have q101 : x5_1 < (l0.length : Int) := of_decide_eq_true (by first | (with_reducible assumption) | assumption)
   obtain ⟨ad101, e101, hx101_0⟩ := Kd.at_bool HR0.out x5_1 p101 q101
   cases e101
   replace p101 := eq_true p101
   replace q101 := eq_true q101
   have p102 : 0 ≤ (x5_1 : Int) := of_decide_eq_true (by first | (with_reducible assumption) | assumption)
   have q102 : x5_1 < (l1.length : Int) := of_decide_eq_true (by first | (with_reducible assumption) | assumption)
   obtain ⟨ad102, e102, hx102_0⟩ := Kd.at_bool HR1.out x5_1 p102 q102
   cases e102
   replace p102 := eq_true p102
   replace q102 := eq_true q102
   go_wp2
   repeat (go_quiet (fail); try go_wp2)
   go_ret
   exact ⟨by first | rfl | (simp; done) | (simp [*]; done), by repeat (first | exact Drawn0.refl _ | apply Drawn0.step)⟩
  rw [if_neg c7] at H
  have c7b0 : ((rdOf false l0 x5_1) != (rdOf false l1 x5_1)) = false := by simpa using c7
  (try (have c7b1 : decide ((rdOf false l0 x5_1) = (rdOf false l1 x5_1)) = true := by simpa using c7))
  (try (have c7b2 : ((rdOf false l0 x5_1) == (rdOf false l1 x5_1)) = true := by simpa using c7))
  clear c7
  have H' := Aside0.mk H
  clear H
  have p101 : 0 ≤ (x5_1 : Int) := of_decide_eq_true (by first | (with_reducible assumption) | assumption)
  have q101 : x5_1 < (l0.length : Int) := of_decide_eq_true (by first | (with_reducible assumption) | assumption)
  obtain ⟨ad101, e101, hx101_0⟩ := Kd.at_bool HR0.out x5_1 p101 q101
  cases e101
  replace p101 := eq_true p101
  replace q101 := eq_true q101
  have p102 : 0 ≤ (x5_1 : Int) := of_decide_eq_true (by first | (with_reducible assumption) | assumption)
  have q102 : x5_1 < (l1.length : Int) := of_decide_eq_true (by first | (with_reducible assumption) | assumption)
  obtain ⟨ad102, e102, hx102_0⟩ := Kd.at_bool HR1.out x5_1 p102 q102
  cases e102
  replace p102 := eq_true p102
  replace q102 := eq_true q102
  go_wp2
  repeat (go_quiet (fail); try go_wp2)
  go_roundg k1
  case measure => have := HK1.out; omega
  case rel => exact ⟨(wrap64 (x5_1 + 1)), (by first | rfl | (simp; done) | (simp [*]; done)), H', ⟨by have := HK1.out; omega⟩, by repeat (first | exact Drawn0.refl _ | apply Drawn0.step)⟩
end Go.Proofs.Ythobnoknbdljgaa.PM
end
section
namespace Go.Proofs.Ythobnoknbdljgaa.PM
open Go.Proofs.Ythobnoknbdljgaa.PB0 Sq
open Go.RowKit Go.Proofs.YthobnoknbdljgaaW.PrintWords Go.Proofs.YthobnoknbdljgaaW.PrintLast Go.Proofs.YthobnoknbdljgaaW.PrintMore
attribute [local go_sem] max2_int min2_int max_two min_two
set_option linter.unusedVariables false
set_option linter.unusedSimpArgs false
attribute [local go_sem high] eqA54 eqA56 eqA67
mutual
def longcaseref06_Same.j0 : Nat → Bool → List (S56) → List (S54) → List (S67) → List Bool → List Bool → List (S56) → List (S54) → List (S67) → List Bool → List Bool → Option (Bool)
 | 0, _, _, _, _, _, _, _, _, _, _, _ => none
 | k + 1, x48, x104000, x104001, x104002, x104003, x104004, x105000, x105001, x105002, x105003, x105004 => if x48 = true then (some false) else (longcaseref06_Same.l0 k 0 x104000 x104001 x104002 x104003 x104004 x105000 x105001 x105002 x105003 x105004)
def longcaseref06_Same.l0 : Nat → Int → List (S56) → List (S54) → List (S67) → List Bool → List Bool → List (S56) → List (S54) → List (S67) → List Bool → List Bool → Option (Bool)
 | 0, _, _, _, _, _, _, _, _, _, _, _ => none
 | k + 1, x5, x104000, x104001, x104002, x104003, x104004, x105000, x105001, x105002, x105003, x105004 => if x5 < (x104000.length : Int) then (if 0 ≤ x5 then (if x5 < (x105000.length : Int) then (if (!(((rd_T56 x104000 x5).f0) == ((rd_T56 x105000 x5).f0)) || (!(((rd_T56 x104000 x5).f1) == ((rd_T56 x105000 x5).f1)) || (!((((rd_T56 x104000 x5).f2).toList) == (((rd_T56 x105000 x5).f2).toList))))) = true then (some false) else (longcaseref06_Same.l0 k (wrap64 (x5 + 1)) x104000 x104001 x104002 x104003 x104004 x105000 x105001 x105002 x105003 x105004)) else (none)) else (none)) else (longcaseref06_Same.l1 k 0 x104000 x104001 x104002 x104003 x104004 x105000 x105001 x105002 x105003 x105004)
def longcaseref06_Same.l1 : Nat → Int → List (S56) → List (S54) → List (S67) → List Bool → List Bool → List (S56) → List (S54) → List (S67) → List Bool → List Bool → Option (Bool)
 | 0, _, _, _, _, _, _, _, _, _, _, _ => none
 | k + 1, x6, x104000, x104001, x104002, x104003, x104004, x105000, x105001, x105002, x105003, x105004 => if x6 < (x104001.length : Int) then (if 0 ≤ x6 then (if x6 < (x105001.length : Int) then (if (!(((rd_T54 x104001 x6).f0) == ((rd_T54 x105001 x6).f0)) || (!(((rd_T54 x104001 x6).f1) == ((rd_T54 x105001 x6).f1)))) = true then (some false) else (longcaseref06_Same.l1 k (wrap64 (x6 + 1)) x104000 x104001 x104002 x104003 x104004 x105000 x105001 x105002 x105003 x105004)) else (none)) else (none)) else (longcaseref06_Same.l2 k 0 x104000 x104001 x104002 x104003 x104004 x105000 x105001 x105002 x105003 x105004)
def longcaseref06_Same.l2 : Nat → Int → List (S56) → List (S54) → List (S67) → List Bool → List Bool → List (S56) → List (S54) → List (S67) → List Bool → List Bool → Option (Bool)
 | 0, _, _, _, _, _, _, _, _, _, _, _ => none
 | k + 1, x7, x104000, x104001, x104002, x104003, x104004, x105000, x105001, x105002, x105003, x105004 => if x7 < (x104002.length : Int) then (if 0 ≤ x7 then (if x7 < (x105002.length : Int) then (if (!(((rd_T67 x104002 x7).f0) == ((rd_T67 x105002 x7).f0)) || (!(((rd_T67 x104002 x7).f1) == ((rd_T67 x105002 x7).f1)))) = true then (some false) else (longcaseref06_Same.l2 k (wrap64 (x7 + 1)) x104000 x104001 x104002 x104003 x104004 x105000 x105001 x105002 x105003 x105004)) else (none)) else (none)) else (some true)
end
def longcaseref06_Same.f (k : Nat) (l0_0 : List (S56)) (l0_1 : List (S54)) (l0_2 : List (S67)) (l0_3 : List Bool) (l0_4 : List Bool) (l1_0 : List (S56)) (l1_1 : List (S54)) (l1_2 : List (S67)) (l1_3 : List Bool) (l1_4 : List Bool) : Option (Bool) := if (l0_0.length : Int) = (l1_0.length : Int) then (if (l0_1.length : Int) = (l1_1.length : Int) then (if (l0_2.length : Int) = (l1_2.length : Int) then ((longcaseref06_bools.f k l0_3 l1_3).bind fun t105 => (if t105 = true then ((longcaseref06_bools.f k l0_4 l1_4).bind fun t106 => (longcaseref06_Same.j0 k (!t106) l0_0 l0_1 l0_2 l0_3 l0_4 l1_0 l1_1 l1_2 l1_3 l1_4)) else (longcaseref06_Same.j0 k true l0_0 l0_1 l0_2 l0_3 l0_4 l1_0 l1_1 l1_2 l1_3 l1_4))) else (longcaseref06_Same.j0 k true l0_0 l0_1 l0_2 l0_3 l0_4 l1_0 l1_1 l1_2 l1_3 l1_4)) else (longcaseref06_Same.j0 k true l0_0 l0_1 l0_2 l0_3 l0_4 l1_0 l1_1 l1_2 l1_3 l1_4)) else (longcaseref06_Same.j0 k true l0_0 l0_1 l0_2 l0_3 l0_4 l1_0 l1_1 l1_2 l1_3 l1_4)
set_option maxHeartbeats 8000000 in
set_option maxRecDepth 100000 in
theorem longcaseref06_Same.calls (k : Nat) (A0_0 : Option Addr) (c0_0 : Nat) (l0_0 : List (S56)) (A0_1 : Option Addr) (c0_1 : Nat) (l0_1 : List (S54)) (A0_2 : Option Addr) (c0_2 : Nat) (l0_2 : List (S67)) (A0_3 : Option Addr) (c0_3 : Nat) (l0_3 : List Bool) (A0_4 : Option Addr) (c0_4 : Nat) (l0_4 : List Bool) (A1_0 : Option Addr) (c1_0 : Nat) (l1_0 : List (S56)) (A1_1 : Option Addr) (c1_1 : Nat) (l1_1 : List (S54)) (A1_2 : Option Addr) (c1_2 : Nat) (l1_2 : List (S67)) (A1_3 : Option Addr) (c1_3 : Nat) (l1_3 : List Bool) (A1_4 : Option Addr) (c1_4 : Nat) (l1_4 : List Bool) (r : Bool) (w : World) (hr0_0 : Kd.C k56 w A0_0 l0_0.length l0_0) (hc0_0 : l0_0.length ≤ c0_0) (hr0_1 : Kd.C k54 w A0_1 l0_1.length l0_1) (hc0_1 : l0_1.length ≤ c0_1) (hr0_2 : Kd.C k67 w A0_2 l0_2.length l0_2) (hc0_2 : l0_2.length ≤ c0_2) (hr0_3 : Kd.C Kd.bool w A0_3 l0_3.length l0_3) (hc0_3 : l0_3.length ≤ c0_3) (hr0_4 : Kd.C Kd.bool w A0_4 l0_4.length l0_4) (hc0_4 : l0_4.length ≤ c0_4) (hr1_0 : Kd.C k56 w A1_0 l1_0.length l1_0) (hc1_0 : l1_0.length ≤ c1_0) (hr1_1 : Kd.C k54 w A1_1 l1_1.length l1_1) (hc1_1 : l1_1.length ≤ c1_1) (hr1_2 : Kd.C k67 w A1_2 l1_2.length l1_2) (hc1_2 : l1_2.length ≤ c1_2) (hr1_3 : Kd.C Kd.bool w A1_3 l1_3.length l1_3) (hc1_3 : l1_3.length ≤ c1_3) (hr1_4 : Kd.C Kd.bool w A1_4 l1_4.length l1_4) (hc1_4 : l1_4.length ≤ c1_4) (h : longcaseref06_Same.f k l0_0 l0_1 l0_2 l0_3 l0_4 l1_0 l1_1 l1_2 l1_3 l1_4 = some r) :
  Calls Try.prog 17 #[.agg #[.slice A0_0 l0_0.length c0_0, .slice A0_1 l0_1.length c0_1, .slice A0_2 l0_2.length c0_2, .slice A0_3 l0_3.length c0_3, .slice A0_4 l0_4.length c0_4], .agg #[.slice A1_0 l1_0.length c1_0, .slice A1_1 l1_1.length c1_1, .slice A1_2 l1_2.length c1_2, .slice A1_3 l1_3.length c1_3, .slice A1_4 l1_4.length c1_4]] w fun e w' => e = .returned (.bool r) ∧ Below w.heap.size w w' := by
 have hu31 := Try.underlying31
 have hu56 := Try.underlying56
 have hu54 := Try.underlying54
 have hu67 := Try.underlying67
 have HR0_0 := Aside0.mk hr0_0
 have HC0_0 := Aside0.mk hc0_0
 clear hr0_0 hc0_0
 have HR0_1 := Aside0.mk hr0_1
 have HC0_1 := Aside0.mk hc0_1
 clear hr0_1 hc0_1
 have HR0_2 := Aside0.mk hr0_2
 have HC0_2 := Aside0.mk hc0_2
 clear hr0_2 hc0_2
 have HR0_3 := Aside0.mk hr0_3
 have HC0_3 := Aside0.mk hc0_3
 clear hr0_3 hc0_3
 have HR0_4 := Aside0.mk hr0_4
 have HC0_4 := Aside0.mk hc0_4
 clear hr0_4 hc0_4
 have HR1_0 := Aside0.mk hr1_0
 have HC1_0 := Aside0.mk hc1_0
 clear hr1_0 hc1_0
 have HR1_1 := Aside0.mk hr1_1
 have HC1_1 := Aside0.mk hc1_1
 clear hr1_1 hc1_1
 have HR1_2 := Aside0.mk hr1_2
 have HC1_2 := Aside0.mk hc1_2
 clear hr1_2 hc1_2
 have HR1_3 := Aside0.mk hr1_3
 have HC1_3 := Aside0.mk hc1_3
 clear hr1_3 hc1_3
 have HR1_4 := Aside0.mk hr1_4
 have HC1_4 := Aside0.mk hc1_4
 clear hr1_4 hc1_4
 have HB := Aside0.mk (Below.refl w.heap.size w)
 have H : (if (l0_0.length : Int) = (l1_0.length : Int) then (if (l0_1.length : Int) = (l1_1.length : Int) then (if (l0_2.length : Int) = (l1_2.length : Int) then ((longcaseref06_bools.f k l0_3 l1_3).bind fun t105 => (if t105 = true then ((longcaseref06_bools.f k l0_4 l1_4).bind fun t106 => (longcaseref06_Same.j0 k (!t106) l0_0 l0_1 l0_2 l0_3 l0_4 l1_0 l1_1 l1_2 l1_3 l1_4)) else (longcaseref06_Same.j0 k true l0_0 l0_1 l0_2 l0_3 l0_4 l1_0 l1_1 l1_2 l1_3 l1_4))) else (longcaseref06_Same.j0 k true l0_0 l0_1 l0_2 l0_3 l0_4 l1_0 l1_1 l1_2 l1_3 l1_4)) else (longcaseref06_Same.j0 k true l0_0 l0_1 l0_2 l0_3 l0_4 l1_0 l1_1 l1_2 l1_3 l1_4)) else (longcaseref06_Same.j0 k true l0_0 l0_1 l0_2 l0_3 l0_4 l1_0 l1_1 l1_2 l1_3 l1_4)) = some r := h
 clear h
 have HC3 := Aside0.mk H
 clear H
 go_enter Try.func17, Try.ntmps17
 go_upto_region 1 with (first | ((with_reducible refine gate_dst (N := 2) rfl ?_); (try (refine gate_guard (by rfl) ?_; dsimp only)); refine box_event ?hg (N := 2) ?hd (cs := #[.slice A0_0 l0_0.length c0_0, .slice A0_1 l0_1.length c0_1, .slice A0_2 l0_2.length c0_2, .slice A0_3 l0_3.length c0_3, .slice A0_4 l0_4.length c0_4]) (t := 31) ?hr ?_; (case hd => rfl); (case hg => rfl); (case hr => first | (go_simp; done) | (go_simp; rfl)); intro gb103 hg w4 hbox hb; have BK103 := Aside0.mk (hbox); have GW103 := Aside0.mk ((by rw [hg]; exact (below_size (Sq.kl HB)) : w.heap.size ≤ gb103)); have GE103 := Aside0.mk ((by rw [hg]; exact (below_size (Sq.kl HB)) : w.heap.size ≤ gb103)); replace HB := Aside0.mk (below_step (Sq.kl HB) hb); clear hb hbox hg) | ((with_reducible refine gate_dst (N := 3) rfl ?_); (try (refine gate_guard (by rfl) ?_; dsimp only)); refine box_event ?hg (N := 3) ?hd (cs := #[.slice A1_0 l1_0.length c1_0, .slice A1_1 l1_1.length c1_1, .slice A1_2 l1_2.length c1_2, .slice A1_3 l1_3.length c1_3, .slice A1_4 l1_4.length c1_4]) (t := 31) ?hr ?_; (case hd => rfl); (case hg => rfl); (case hr => first | (go_simp; done) | (go_simp; rfl)); intro gb104 hg w5 hbox hb; have BK104 := Aside0.mk (hbox); have GW104 := Aside0.mk ((by rw [hg]; exact (below_size (Sq.kl1 HB GE103)) : w.heap.size ≤ gb104)); have GE104 := Aside0.mk ((by rw [hg]; exact (below_size (Sq.kl1 HB GE103)) : w.heap.size ≤ gb104)); replace HB := Aside0.mk (below_step (Sq.kl1 HB GE103) hb); have NB103_104 := Aside0.mk ((by rw [hg]; exact Nat.ne_of_lt (blk_lt (kb BK103)) : gb103 ≠ gb104)); have NB104_103 := Aside0.mk ((by rw [hg]; exact Nat.ne_of_gt (blk_lt (kb BK103)) : gb104 ≠ gb103)); replace BK103 := kbb BK103 hb; clear hb hbox hg))
 repeat (go_quiet (first | ((with_reducible refine gate_dst (N := 2) rfl ?_); (try (refine gate_guard (by rfl) ?_; dsimp only)); refine box_event ?hg (N := 2) ?hd (cs := #[.slice A0_0 l0_0.length c0_0, .slice A0_1 l0_1.length c0_1, .slice A0_2 l0_2.length c0_2, .slice A0_3 l0_3.length c0_3, .slice A0_4 l0_4.length c0_4]) (t := 31) ?hr ?_; (case hd => rfl); (case hg => rfl); (case hr => first | (go_simp; done) | (go_simp; rfl)); intro gb103 hg w4 hbox hb; have BK103 := Aside0.mk (hbox); have GW103 := Aside0.mk ((by rw [hg]; exact (below_size (Sq.kl HB)) : w.heap.size ≤ gb103)); have GE103 := Aside0.mk ((by rw [hg]; exact (below_size (Sq.kl HB)) : w.heap.size ≤ gb103)); replace HB := Aside0.mk (below_step (Sq.kl HB) hb); clear hb hbox hg) | ((with_reducible refine gate_dst (N := 3) rfl ?_); (try (refine gate_guard (by rfl) ?_; dsimp only)); refine box_event ?hg (N := 3) ?hd (cs := #[.slice A1_0 l1_0.length c1_0, .slice A1_1 l1_1.length c1_1, .slice A1_2 l1_2.length c1_2, .slice A1_3 l1_3.length c1_3, .slice A1_4 l1_4.length c1_4]) (t := 31) ?hr ?_; (case hd => rfl); (case hg => rfl); (case hr => first | (go_simp; done) | (go_simp; rfl)); intro gb104 hg w5 hbox hb; have BK104 := Aside0.mk (hbox); have GW104 := Aside0.mk ((by rw [hg]; exact (below_size (Sq.kl1 HB GE103)) : w.heap.size ≤ gb104)); have GE104 := Aside0.mk ((by rw [hg]; exact (below_size (Sq.kl1 HB GE103)) : w.heap.size ≤ gb104)); replace HB := Aside0.mk (below_step (Sq.kl1 HB GE103) hb); have NB103_104 := Aside0.mk ((by rw [hg]; exact Nat.ne_of_lt (blk_lt (kb BK103)) : gb103 ≠ gb104)); have NB104_103 := Aside0.mk ((by rw [hg]; exact Nat.ne_of_gt (blk_lt (kb BK103)) : gb104 ≠ gb103)); replace BK103 := kbb BK103 hb; clear hb hbox hg)); go_upto_region 1 with (first | ((with_reducible refine gate_dst (N := 2) rfl ?_); (try (refine gate_guard (by rfl) ?_; dsimp only)); refine box_event ?hg (N := 2) ?hd (cs := #[.slice A0_0 l0_0.length c0_0, .slice A0_1 l0_1.length c0_1, .slice A0_2 l0_2.length c0_2, .slice A0_3 l0_3.length c0_3, .slice A0_4 l0_4.length c0_4]) (t := 31) ?hr ?_; (case hd => rfl); (case hg => rfl); (case hr => first | (go_simp; done) | (go_simp; rfl)); intro gb103 hg w4 hbox hb; have BK103 := Aside0.mk (hbox); have GW103 := Aside0.mk ((by rw [hg]; exact (below_size (Sq.kl HB)) : w.heap.size ≤ gb103)); have GE103 := Aside0.mk ((by rw [hg]; exact (below_size (Sq.kl HB)) : w.heap.size ≤ gb103)); replace HB := Aside0.mk (below_step (Sq.kl HB) hb); clear hb hbox hg) | ((with_reducible refine gate_dst (N := 3) rfl ?_); (try (refine gate_guard (by rfl) ?_; dsimp only)); refine box_event ?hg (N := 3) ?hd (cs := #[.slice A1_0 l1_0.length c1_0, .slice A1_1 l1_1.length c1_1, .slice A1_2 l1_2.length c1_2, .slice A1_3 l1_3.length c1_3, .slice A1_4 l1_4.length c1_4]) (t := 31) ?hr ?_; (case hd => rfl); (case hg => rfl); (case hr => first | (go_simp; done) | (go_simp; rfl)); intro gb104 hg w5 hbox hb; have BK104 := Aside0.mk (hbox); have GW104 := Aside0.mk ((by rw [hg]; exact (below_size (Sq.kl1 HB GE103)) : w.heap.size ≤ gb104)); have GE104 := Aside0.mk ((by rw [hg]; exact (below_size (Sq.kl1 HB GE103)) : w.heap.size ≤ gb104)); replace HB := Aside0.mk (below_step (Sq.kl1 HB GE103) hb); have NB103_104 := Aside0.mk ((by rw [hg]; exact Nat.ne_of_lt (blk_lt (kb BK103)) : gb103 ≠ gb104)); have NB104_103 := Aside0.mk ((by rw [hg]; exact Nat.ne_of_gt (blk_lt (kb BK103)) : gb104 ≠ gb103)); replace BK103 := kbb BK103 hb; clear hb hbox hg)))
 (try simp only [Act.put, List.setIfInBounds_toArray, List.set_cons_zero, List.set_cons_succ])
 go_cut [48] (fun v48 wc => ∃ (kq : Nat) (x48_2 : Bool), v48 = .bool x48_2 ∧ Aside0 (longcaseref06_Same.j0 kq x48_2 l0_0 l0_1 l0_2 l0_3 l0_4 l1_0 l1_1 l1_2 l1_3 l1_4 = some r) ∧ Aside0 (kq ≤ k) ∧ Aside0 (wc.heap[gb103]? = some (.cells #[(.slice A0_0 l0_0.length c0_0), (.slice A0_1 l0_1.length c0_1), (.slice A0_2 l0_2.length c0_2), (.slice A0_3 l0_3.length c0_3), (.slice A0_4 l0_4.length c0_4)] 31 (0, 0))) ∧ Aside0 (wc.heap[gb104]? = some (.cells #[(.slice A1_0 l1_0.length c1_0), (.slice A1_1 l1_1.length c1_1), (.slice A1_2 l1_2.length c1_2), (.slice A1_3 l1_3.length c1_3), (.slice A1_4 l1_4.length c1_4)] 31 (0, 0))) ∧ Aside0 (Below w.heap.size w wc))
 case first =>
  have H := HC3.out
  clear HC3
  by_cases c6 : (l0_0.length : Int) = (l1_0.length : Int)
  rotate_left
  ·
   rw [if_neg c6] at H
   have c6b0 : ((l0_0.length : Int) == (l1_0.length : Int)) = false := beq_eq_false_iff_ne.mpr c6
   have c6b1 : ((l0_0.length : Int) != (l1_0.length : Int)) = true := bne_iff_ne.mpr c6
   have c6b2 : (l0_0.length == l1_0.length) = false := by first | simpa using c6 | (simp at c6 ⊢; omega)
   (first | rw [c6b0] | rw [c6b1] | (simp only [i64_w, i32_w]; rw [c6b0]) | skip)
   have H' := Aside0.mk H
   clear H
   have hnb24 := NB103_104.out
   have hnc24 := NB104_103.out
   obtain ⟨hcz25_0, hcz25_1, hcz25_2, hcz25_3, hcz25_4⟩ := Sq.c5 BK103
   obtain ⟨hfz25_0, hfz25_1, hfz25_2, hfz25_3, hfz25_4⟩ := Sq.z5 BK103
   obtain ⟨hcz26_0, hcz26_1, hcz26_2, hcz26_3, hcz26_4⟩ := Sq.c5 BK104
   obtain ⟨hfz26_0, hfz26_1, hfz26_2, hfz26_3, hfz26_4⟩ := Sq.z5 BK104
   go_wp2
   repeat (go_quiet (fail); try go_wp2)
   go_meet
   case rel => exact ⟨_, (true), (by first | rfl | (simp; done) | (simp [*]; done)), H', ⟨by first | omega | exact Nat.le_refl _⟩, ⟨Sq.kb BK103⟩, ⟨Sq.kb BK104⟩, ⟨Sq.kl2 HB GE103 GE104⟩⟩
  rw [if_pos c6] at H
  have c6b0 : ((l0_0.length : Int) == (l1_0.length : Int)) = true := beq_iff_eq.mpr c6
  have c6b1 : ((l0_0.length : Int) != (l1_0.length : Int)) = false := bne_eq_false_iff_eq.mpr c6
  have c6b2 : (l0_0.length == l1_0.length) = true := by first | simpa using c6 | (simp at c6 ⊢; omega)
  clear c6
  (first | rw [c6b0] | rw [c6b1] | (simp only [i64_w, i32_w]; rw [c6b0]) | skip)
  by_cases c7 : (l0_1.length : Int) = (l1_1.length : Int)
  rotate_left
  ·
   rw [if_neg c7] at H
   have c7b0 : ((l0_1.length : Int) == (l1_1.length : Int)) = false := beq_eq_false_iff_ne.mpr c7
   have c7b1 : ((l0_1.length : Int) != (l1_1.length : Int)) = true := bne_iff_ne.mpr c7
   have c7b2 : (l0_1.length == l1_1.length) = false := by first | simpa using c7 | (simp at c7 ⊢; omega)
   have H' := Aside0.mk H
   clear H
   have hnb21 := NB103_104.out
   have hnc21 := NB104_103.out
   obtain ⟨hcz22_0, hcz22_1, hcz22_2, hcz22_3, hcz22_4⟩ := Sq.c5 BK103
   obtain ⟨hfz22_0, hfz22_1, hfz22_2, hfz22_3, hfz22_4⟩ := Sq.z5 BK103
   obtain ⟨hcz23_0, hcz23_1, hcz23_2, hcz23_3, hcz23_4⟩ := Sq.c5 BK104
   obtain ⟨hfz23_0, hfz23_1, hfz23_2, hfz23_3, hfz23_4⟩ := Sq.z5 BK104
   go_wp2
   repeat (go_quiet (fail); try go_wp2)
   go_meet
   case rel => exact ⟨_, (true), (by first | rfl | (simp; done) | (simp [*]; done)), H', ⟨by first | omega | exact Nat.le_refl _⟩, ⟨Sq.kb BK103⟩, ⟨Sq.kb BK104⟩, ⟨Sq.kl2 HB GE103 GE104⟩⟩
  rw [if_pos c7] at H
  have c7b0 : ((l0_1.length : Int) == (l1_1.length : Int)) = true := beq_iff_eq.mpr c7
  have c7b1 : ((l0_1.length : Int) != (l1_1.length : Int)) = false := bne_eq_false_iff_eq.mpr c7
  have c7b2 : (l0_1.length == l1_1.length) = true := by first | simpa using c7 | (simp at c7 ⊢; omega)
  clear c7
  by_cases c8 : (l0_2.length : Int) = (l1_2.length : Int)
  rotate_left
  ·
   rw [if_neg c8] at H
   have c8b0 : ((l0_2.length : Int) == (l1_2.length : Int)) = false := beq_eq_false_iff_ne.mpr c8
   have c8b1 : ((l0_2.length : Int) != (l1_2.length : Int)) = true := bne_iff_ne.mpr c8
   have c8b2 : (l0_2.length == l1_2.length) = false := by first | simpa using c8 | (simp at c8 ⊢; omega)
   have H' := Aside0.mk H
   clear H
   have hnb18 := NB103_104.out
   have hnc18 := NB104_103.out
   obtain ⟨hcz19_0, hcz19_1, hcz19_2, hcz19_3, hcz19_4⟩ := Sq.c5 BK103
   obtain ⟨hfz19_0, hfz19_1, hfz19_2, hfz19_3, hfz19_4⟩ := Sq.z5 BK103
   obtain ⟨hcz20_0, hcz20_1, hcz20_2, hcz20_3, hcz20_4⟩ := Sq.c5 BK104
   obtain ⟨hfz20_0, hfz20_1, hfz20_2, hfz20_3, hfz20_4⟩ := Sq.z5 BK104
   go_wp2
   repeat (go_quiet (fail); try go_wp2)
   go_meet
   case rel => exact ⟨_, (true), (by first | rfl | (simp; done) | (simp [*]; done)), H', ⟨by first | omega | exact Nat.le_refl _⟩, ⟨Sq.kb BK103⟩, ⟨Sq.kb BK104⟩, ⟨Sq.kl2 HB GE103 GE104⟩⟩
  rw [if_pos c8] at H
  have c8b0 : ((l0_2.length : Int) == (l1_2.length : Int)) = true := beq_iff_eq.mpr c8
  have c8b1 : ((l0_2.length : Int) != (l1_2.length : Int)) = false := bne_eq_false_iff_eq.mpr c8
  have c8b2 : (l0_2.length == l1_2.length) = true := by first | simpa using c8 | (simp at c8 ⊢; omega)
  clear c8
  replace H := Option.bind_eq_some_iff.mp H
  obtain ⟨t105, A90, H⟩ := H
  replace H : (if t105 = true then ((longcaseref06_bools.f k l0_4 l1_4).bind fun t106 => (longcaseref06_Same.j0 k (!t106) l0_0 l0_1 l0_2 l0_3 l0_4 l1_0 l1_1 l1_2 l1_3 l1_4)) else (longcaseref06_Same.j0 k true l0_0 l0_1 l0_2 l0_3 l0_4 l1_0 l1_1 l1_2 l1_3 l1_4)) = some r := H
  have A9 := Aside0.mk A90
  clear A90
  by_cases c10 : t105 = true
  rotate_left
  ·
   replace c10 := Bool.eq_false_iff.mpr c10
   subst c10
   rw [if_neg (show ¬ (false = true) by decide)] at H
   have H' := Aside0.mk H
   clear H
   have hnb15 := NB103_104.out
   have hnc15 := NB104_103.out
   obtain ⟨hcz16_0, hcz16_1, hcz16_2, hcz16_3, hcz16_4⟩ := Sq.c5 BK103
   obtain ⟨hfz16_0, hfz16_1, hfz16_2, hfz16_3, hfz16_4⟩ := Sq.z5 BK103
   obtain ⟨hcz17_0, hcz17_1, hcz17_2, hcz17_3, hcz17_4⟩ := Sq.c5 BK104
   obtain ⟨hfz17_0, hfz17_1, hfz17_2, hfz17_3, hfz17_4⟩ := Sq.z5 BK104
   go_wp2_with (first | (go_at_call 33; (with_reducible refine (longcaseref06_bools.calls k _ _ l0_3 _ _ l1_3 false _ ?side1 ?side2 ?side3 ?side4 A9.out).mono ?_); (case side1 => exact Sq.qd HR0_3 HB); (case side2 => exact HC0_3.out); (case side3 => exact Sq.qd HR1_3 HB); (case side4 => exact HC1_3.out); rintro e w' ⟨rfl, ⟨nd, rfl⟩⟩; (try first | exact ⟨rfl, _, World.drewN_drewN _ _ _⟩ | exact ⟨rfl, _, Eq.trans (World.drewN_drewN _ _ _) (congrArg (World.drewN _) (Nat.add_assoc _ _ _))⟩)))
   repeat (go_quiet (first | (go_at_call 33; (with_reducible refine (longcaseref06_bools.calls k _ _ l0_3 _ _ l1_3 false _ ?side1 ?side2 ?side3 ?side4 A9.out).mono ?_); (case side1 => exact Sq.qd HR0_3 HB); (case side2 => exact HC0_3.out); (case side3 => exact Sq.qd HR1_3 HB); (case side4 => exact HC1_3.out); rintro e w' ⟨rfl, ⟨nd, rfl⟩⟩; (try first | exact ⟨rfl, _, World.drewN_drewN _ _ _⟩ | exact ⟨rfl, _, Eq.trans (World.drewN_drewN _ _ _) (congrArg (World.drewN _) (Nat.add_assoc _ _ _))⟩))); try go_wp2_with (first | (go_at_call 33; (with_reducible refine (longcaseref06_bools.calls k _ _ l0_3 _ _ l1_3 false _ ?side1 ?side2 ?side3 ?side4 A9.out).mono ?_); (case side1 => exact Sq.qd HR0_3 HB); (case side2 => exact HC0_3.out); (case side3 => exact Sq.qd HR1_3 HB); (case side4 => exact HC1_3.out); rintro e w' ⟨rfl, ⟨nd, rfl⟩⟩; (try first | exact ⟨rfl, _, World.drewN_drewN _ _ _⟩ | exact ⟨rfl, _, Eq.trans (World.drewN_drewN _ _ _) (congrArg (World.drewN _) (Nat.add_assoc _ _ _))⟩))))
   go_meet
   case rel => exact ⟨_, (true), (by first | rfl | (simp; done) | (simp [*]; done)), H', ⟨by first | omega | exact Nat.le_refl _⟩, ⟨Sq.kb BK103⟩, ⟨Sq.kb BK104⟩, ⟨Sq.kl2 HB GE103 GE104⟩⟩
  subst c10
  rw [if_pos rfl] at H
  replace H := Option.bind_eq_some_iff.mp H
  obtain ⟨t106, A110, H⟩ := H
  replace H : (longcaseref06_Same.j0 k (!t106) l0_0 l0_1 l0_2 l0_3 l0_4 l1_0 l1_1 l1_2 l1_3 l1_4) = some r := H
  have A11 := Aside0.mk A110
  clear A110
  have H' := Aside0.mk H
  clear H
  have hnb12 := NB103_104.out
  have hnc12 := NB104_103.out
  obtain ⟨hcz13_0, hcz13_1, hcz13_2, hcz13_3, hcz13_4⟩ := Sq.c5 BK103
  obtain ⟨hfz13_0, hfz13_1, hfz13_2, hfz13_3, hfz13_4⟩ := Sq.z5 BK103
  obtain ⟨hcz14_0, hcz14_1, hcz14_2, hcz14_3, hcz14_4⟩ := Sq.c5 BK104
  obtain ⟨hfz14_0, hfz14_1, hfz14_2, hfz14_3, hfz14_4⟩ := Sq.z5 BK104
  go_wp2_with (first | (go_at_call 33; (with_reducible refine (longcaseref06_bools.calls k _ _ l0_3 _ _ l1_3 true _ ?side1 ?side2 ?side3 ?side4 A9.out).mono ?_); (case side1 => exact Sq.qd HR0_3 HB); (case side2 => exact HC0_3.out); (case side3 => exact Sq.qd HR1_3 HB); (case side4 => exact HC1_3.out); rintro e w' ⟨rfl, ⟨nd, rfl⟩⟩; (try first | exact ⟨rfl, _, World.drewN_drewN _ _ _⟩ | exact ⟨rfl, _, Eq.trans (World.drewN_drewN _ _ _) (congrArg (World.drewN _) (Nat.add_assoc _ _ _))⟩)) | (go_at_call 33; (with_reducible refine (longcaseref06_bools.calls k _ _ l0_4 _ _ l1_4 t106 _ ?side1 ?side2 ?side3 ?side4 A11.out).mono ?_); (case side1 => repeat (first | exact (Kd.C_below HR0_4.out (Sq.kl2 HB GE103 GE104)) | (with_reducible refine Kd.C_alloc ?_ _) | (with_reducible refine Kd.C_drewN ?_ _) | (with_reducible refine Kd.C_drew ?_))); (case side2 => exact HC0_4.out); (case side3 => repeat (first | exact (Kd.C_below HR1_4.out (Sq.kl2 HB GE103 GE104)) | (with_reducible refine Kd.C_alloc ?_ _) | (with_reducible refine Kd.C_drewN ?_ _) | (with_reducible refine Kd.C_drew ?_))); (case side4 => exact HC1_4.out); rintro e w' ⟨rfl, ⟨nd, rfl⟩⟩; (try first | exact ⟨rfl, _, World.drewN_drewN _ _ _⟩ | exact ⟨rfl, _, Eq.trans (World.drewN_drewN _ _ _) (congrArg (World.drewN _) (Nat.add_assoc _ _ _))⟩)))
  repeat (go_quiet (first | (go_at_call 33; (with_reducible refine (longcaseref06_bools.calls k _ _ l0_3 _ _ l1_3 true _ ?side1 ?side2 ?side3 ?side4 A9.out).mono ?_); (case side1 => exact Sq.qd HR0_3 HB); (case side2 => exact HC0_3.out); (case side3 => exact Sq.qd HR1_3 HB); (case side4 => exact HC1_3.out); rintro e w' ⟨rfl, ⟨nd, rfl⟩⟩; (try first | exact ⟨rfl, _, World.drewN_drewN _ _ _⟩ | exact ⟨rfl, _, Eq.trans (World.drewN_drewN _ _ _) (congrArg (World.drewN _) (Nat.add_assoc _ _ _))⟩)) | (go_at_call 33; (with_reducible refine (longcaseref06_bools.calls k _ _ l0_4 _ _ l1_4 t106 _ ?side1 ?side2 ?side3 ?side4 A11.out).mono ?_); (case side1 => repeat (first | exact (Kd.C_below HR0_4.out (Sq.kl2 HB GE103 GE104)) | (with_reducible refine Kd.C_alloc ?_ _) | (with_reducible refine Kd.C_drewN ?_ _) | (with_reducible refine Kd.C_drew ?_))); (case side2 => exact HC0_4.out); (case side3 => repeat (first | exact (Kd.C_below HR1_4.out (Sq.kl2 HB GE103 GE104)) | (with_reducible refine Kd.C_alloc ?_ _) | (with_reducible refine Kd.C_drewN ?_ _) | (with_reducible refine Kd.C_drew ?_))); (case side4 => exact HC1_4.out); rintro e w' ⟨rfl, ⟨nd, rfl⟩⟩; (try first | exact ⟨rfl, _, World.drewN_drewN _ _ _⟩ | exact ⟨rfl, _, Eq.trans (World.drewN_drewN _ _ _) (congrArg (World.drewN _) (Nat.add_assoc _ _ _))⟩))); try go_wp2_with (first | (go_at_call 33; (with_reducible refine (longcaseref06_bools.calls k _ _ l0_3 _ _ l1_3 true _ ?side1 ?side2 ?side3 ?side4 A9.out).mono ?_); (case side1 => exact Sq.qd HR0_3 HB); (case side2 => exact HC0_3.out); (case side3 => exact Sq.qd HR1_3 HB); (case side4 => exact HC1_3.out); rintro e w' ⟨rfl, ⟨nd, rfl⟩⟩; (try first | exact ⟨rfl, _, World.drewN_drewN _ _ _⟩ | exact ⟨rfl, _, Eq.trans (World.drewN_drewN _ _ _) (congrArg (World.drewN _) (Nat.add_assoc _ _ _))⟩)) | (go_at_call 33; (with_reducible refine (longcaseref06_bools.calls k _ _ l0_4 _ _ l1_4 t106 _ ?side1 ?side2 ?side3 ?side4 A11.out).mono ?_); (case side1 => repeat (first | exact (Kd.C_below HR0_4.out (Sq.kl2 HB GE103 GE104)) | (with_reducible refine Kd.C_alloc ?_ _) | (with_reducible refine Kd.C_drewN ?_ _) | (with_reducible refine Kd.C_drew ?_))); (case side2 => exact HC0_4.out); (case side3 => repeat (first | exact (Kd.C_below HR1_4.out (Sq.kl2 HB GE103 GE104)) | (with_reducible refine Kd.C_alloc ?_ _) | (with_reducible refine Kd.C_drewN ?_ _) | (with_reducible refine Kd.C_drew ?_))); (case side4 => exact HC1_4.out); rintro e w' ⟨rfl, ⟨nd, rfl⟩⟩; (try first | exact ⟨rfl, _, World.drewN_drewN _ _ _⟩ | exact ⟨rfl, _, Eq.trans (World.drewN_drewN _ _ _) (congrArg (World.drewN _) (Nat.add_assoc _ _ _))⟩))))
  go_meet
  case rel => exact ⟨_, (!t106), (by first | rfl | (simp; done) | (simp [*]; done)), H', ⟨by first | omega | exact Nat.le_refl _⟩, ⟨Sq.kb BK103⟩, ⟨Sq.kb BK104⟩, ⟨Sq.kl2 HB GE103 GE104⟩⟩
 clear HC3
 try clear c1
 try clear c2
 try clear p2
 try clear c6
 try clear c6b0
 try clear c6b1
 try clear c6b2
 try clear c7
 try clear c7b0
 try clear c7b1
 try clear c7b2
 try clear c8
 try clear c8b0
 try clear c8b1
 try clear c8b2
 try clear c10
 try clear c12
 try clear c15
 try clear c17
 try clear c18
 try clear c21
 try clear c24
 try clear hcz13_0
 try clear hcz13_1
 try clear hcz13_2
 try clear hcz13_3
 try clear hcz13_4
 try clear hcz14_0
 try clear hcz14_1
 try clear hcz14_2
 try clear hcz14_3
 try clear hcz14_4
 try clear hcz16_0
 try clear hcz16_1
 try clear hcz16_2
 try clear hcz16_3
 try clear hcz16_4
 try clear hcz17_0
 try clear hcz17_1
 try clear hcz17_2
 try clear hcz17_3
 try clear hcz17_4
 try clear hcz19_0
 try clear hcz19_1
 try clear hcz19_2
 try clear hcz19_3
 try clear hcz19_4
 try clear hcz20_0
 try clear hcz20_1
 try clear hcz20_2
 try clear hcz20_3
 try clear hcz20_4
 try clear hcz22_0
 try clear hcz22_1
 try clear hcz22_2
 try clear hcz22_3
 try clear hcz22_4
 try clear hcz23_0
 try clear hcz23_1
 try clear hcz23_2
 try clear hcz23_3
 try clear hcz23_4
 try clear hcz25_0
 try clear hcz25_1
 try clear hcz25_2
 try clear hcz25_3
 try clear hcz25_4
 try clear hcz26_0
 try clear hcz26_1
 try clear hcz26_2
 try clear hcz26_3
 try clear hcz26_4
 try clear hfz13_0
 try clear hfz13_1
 try clear hfz13_2
 try clear hfz13_3
 try clear hfz13_4
 try clear hfz14_0
 try clear hfz14_1
 try clear hfz14_2
 try clear hfz14_3
 try clear hfz14_4
 try clear hfz16_0
 try clear hfz16_1
 try clear hfz16_2
 try clear hfz16_3
 try clear hfz16_4
 try clear hfz17_0
 try clear hfz17_1
 try clear hfz17_2
 try clear hfz17_3
 try clear hfz17_4
 try clear hfz19_0
 try clear hfz19_1
 try clear hfz19_2
 try clear hfz19_3
 try clear hfz19_4
 try clear hfz20_0
 try clear hfz20_1
 try clear hfz20_2
 try clear hfz20_3
 try clear hfz20_4
 try clear hfz22_0
 try clear hfz22_1
 try clear hfz22_2
 try clear hfz22_3
 try clear hfz22_4
 try clear hfz23_0
 try clear hfz23_1
 try clear hfz23_2
 try clear hfz23_3
 try clear hfz23_4
 try clear hfz25_0
 try clear hfz25_1
 try clear hfz25_2
 try clear hfz25_3
 try clear hfz25_4
 try clear hfz26_0
 try clear hfz26_1
 try clear hfz26_2
 try clear hfz26_3
 try clear hfz26_4
 obtain ⟨kq, x48_2, rfl, HA, HJ2, BK103, BK104, HB⟩ := hcut
 cases kq with
 | zero => exact absurd HA.out (by simp [longcaseref06_Same.j0])
 | succ kj2 =>
  have H := HA.out
  clear HA
  simp only [longcaseref06_Same.j0] at H
  by_cases c27 : x48_2 = true
  ·
   subst c27
   rw [if_pos rfl] at H
   obtain rfl := Option.some.inj H
   go_wp2
   repeat (go_quiet (fail); try go_wp2)
   go_ret
   exact ⟨by first | rfl | (simp [errW_none, errW_some] <;> rfl) | (simp [*, errW_none, errW_some] <;> rfl), by repeat (first | (with_reducible first | exact HB.out | apply below_alloc | apply pw_below_drewN | apply below_drew1 | refine below_set ?_ GE103.out | refine below_set ?_ GE104.out) | exact HB.out)⟩
  replace c27 := Bool.eq_false_iff.mpr c27
  subst c27
  rw [if_neg (show ¬ (false = true) by decide)] at H
  have H' := Aside0.mk H
  clear H
  go_wp2
  repeat (go_quiet (fail); try go_wp2)
  go_loopg [5] kj2 (fun kq v5 w' => ∃ (x5_2 : Int), v5 = .int .i64 x5_2 ∧ Aside0 (longcaseref06_Same.l0 kq x5_2 l0_0 l0_1 l0_2 l0_3 l0_4 l1_0 l1_1 l1_2 l1_3 l1_4 = some r) ∧ Aside0 (kq ≤ kj2) ∧ Aside0 (w'.heap[gb103]? = some (.cells #[(.slice A0_0 l0_0.length c0_0), (.slice A0_1 l0_1.length c0_1), (.slice A0_2 l0_2.length c0_2), (.slice A0_3 l0_3.length c0_3), (.slice A0_4 l0_4.length c0_4)] 31 (0, 0))) ∧ Aside0 (w'.heap[gb104]? = some (.cells #[(.slice A1_0 l1_0.length c1_0), (.slice A1_1 l1_1.length c1_1), (.slice A1_2 l1_2.length c1_2), (.slice A1_3 l1_3.length c1_3), (.slice A1_4 l1_4.length c1_4)] 31 (0, 0))) ∧ Aside0 (Below w.heap.size w w'))
  case atStart => exact ⟨(0), (by first | rfl | (simp; done) | (simp [*]; done)), H', ⟨Nat.le_refl _⟩, ⟨Sq.kb BK103⟩, ⟨Sq.kb BK104⟩, ⟨Sq.kl2 HB GE103 GE104⟩⟩
  clear H'
  try clear c1
  try clear c2
  try clear p2
  try clear c6
  try clear c6b0
  try clear c6b1
  try clear c6b2
  try clear c7
  try clear c7b0
  try clear c7b1
  try clear c7b2
  try clear c8
  try clear c8b0
  try clear c8b1
  try clear c8b2
  try clear c10
  try clear c12
  try clear c15
  try clear c17
  try clear c18
  try clear c21
  try clear c24
  try clear c27
  try clear hcz13_0
  try clear hcz13_1
  try clear hcz13_2
  try clear hcz13_3
  try clear hcz13_4
  try clear hcz14_0
  try clear hcz14_1
  try clear hcz14_2
  try clear hcz14_3
  try clear hcz14_4
  try clear hcz16_0
  try clear hcz16_1
  try clear hcz16_2
  try clear hcz16_3
  try clear hcz16_4
  try clear hcz17_0
  try clear hcz17_1
  try clear hcz17_2
  try clear hcz17_3
  try clear hcz17_4
  try clear hcz19_0
  try clear hcz19_1
  try clear hcz19_2
  try clear hcz19_3
  try clear hcz19_4
  try clear hcz20_0
  try clear hcz20_1
  try clear hcz20_2
  try clear hcz20_3
  try clear hcz20_4
  try clear hcz22_0
  try clear hcz22_1
  try clear hcz22_2
  try clear hcz22_3
  try clear hcz22_4
  try clear hcz23_0
  try clear hcz23_1
  try clear hcz23_2
  try clear hcz23_3
  try clear hcz23_4
  try clear hcz25_0
  try clear hcz25_1
  try clear hcz25_2
  try clear hcz25_3
  try clear hcz25_4
  try clear hcz26_0
  try clear hcz26_1
  try clear hcz26_2
  try clear hcz26_3
  try clear hcz26_4
  try clear hfz13_0
  try clear hfz13_1
  try clear hfz13_2
  try clear hfz13_3
  try clear hfz13_4
  try clear hfz14_0
  try clear hfz14_1
  try clear hfz14_2
  try clear hfz14_3
  try clear hfz14_4
  try clear hfz16_0
  try clear hfz16_1
  try clear hfz16_2
  try clear hfz16_3
  try clear hfz16_4
  try clear hfz17_0
  try clear hfz17_1
  try clear hfz17_2
  try clear hfz17_3
  try clear hfz17_4
  try clear hfz19_0
  try clear hfz19_1
  try clear hfz19_2
  try clear hfz19_3
  try clear hfz19_4
  try clear hfz20_0
  try clear hfz20_1
  try clear hfz20_2
  try clear hfz20_3
  try clear hfz20_4
  try clear hfz22_0
  try clear hfz22_1
  try clear hfz22_2
  try clear hfz22_3
  try clear hfz22_4
  try clear hfz23_0
  try clear hfz23_1
  try clear hfz23_2
  try clear hfz23_3
  try clear hfz23_4
  try clear hfz25_0
  try clear hfz25_1
  try clear hfz25_2
  try clear hfz25_3
  try clear hfz25_4
  try clear hfz26_0
  try clear hfz26_1
  try clear hfz26_2
  try clear hfz26_3
  try clear hfz26_4
  try clear p2
  obtain ⟨x5_2, rfl, HA, HK2, BK103, BK104, HB⟩ := hrel
  cases gk with
  | zero => exact absurd HA.out (by simp [longcaseref06_Same.l0])
  | succ k2 =>
   have H := HA.out
   clear HA
   simp only [longcaseref06_Same.l0] at H
   by_cases c28 : x5_2 < (l0_0.length : Int)
   ·
    rw [if_pos c28] at H
    have c28b0 : decide (x5_2 < (l0_0.length : Int)) = true := decide_eq_true c28
    clear c28
    by_cases c29 : 0 ≤ x5_2
    rotate_left
    ·
     rw [if_neg c29] at H
     exact absurd H (by simp)
    rw [if_pos c29] at H
    have c29b0 : decide (0 ≤ x5_2) = true := decide_eq_true c29
    clear c29
    by_cases c30 : x5_2 < (l1_0.length : Int)
    rotate_left
    ·
     rw [if_neg c30] at H
     exact absurd H (by simp)
    rw [if_pos c30] at H
    have c30b0 : decide (x5_2 < (l1_0.length : Int)) = true := decide_eq_true c30
    clear c30
    by_cases c31 : (!(((rd_T56 l0_0 x5_2).f0) == ((rd_T56 l1_0 x5_2).f0)) || (!(((rd_T56 l0_0 x5_2).f1) == ((rd_T56 l1_0 x5_2).f1)) || (!((((rd_T56 l0_0 x5_2).f2).toList) == (((rd_T56 l1_0 x5_2).f2).toList))))) = true
    ·
     rw [if_pos c31] at H
     have c31b0 : (!(((rd_T56 l0_0 x5_2).f0) == ((rd_T56 l1_0 x5_2).f0)) || (!(((rd_T56 l0_0 x5_2).f1) == ((rd_T56 l1_0 x5_2).f1)) || (!((((rd_T56 l0_0 x5_2).f2).toList) == (((rd_T56 l1_0 x5_2).f2).toList))))) = true := c31
     clear c31
     obtain rfl := Option.some.inj H
     have hnb32 := NB103_104.out
     have hnc32 := NB104_103.out
     obtain ⟨hcz33_0, hcz33_1, hcz33_2, hcz33_3, hcz33_4⟩ := Sq.c5 BK103
     obtain ⟨hfz33_0, hfz33_1, hfz33_2, hfz33_3, hfz33_4⟩ := Sq.z5 BK103
     have p107 : 0 ≤ (x5_2 : Int) := of_decide_eq_true (by first | (with_reducible assumption) | assumption)
     have q107 : x5_2 < (l0_0.length : Int) := of_decide_eq_true (by first | (with_reducible assumption) | assumption)
     obtain ⟨ad107, e107, hx107_0, hx107_1, hx107_2⟩ := at_T56 HR0_0.out x5_2 p107 q107
     cases e107
     replace hx107_0 := (HB.out.cell (World.block_lt_of_cell? w _ hx107_0)).trans hx107_0
     replace hx107_1 := (HB.out.cell (World.block_lt_of_cell? w _ hx107_1)).trans hx107_1
     replace hx107_2 := (HB.out.cell (World.block_lt_of_cell? w _ hx107_2)).trans hx107_2
     replace p107 := eq_true p107
     replace q107 := eq_true q107
     obtain ⟨hcz34_0, hcz34_1, hcz34_2, hcz34_3, hcz34_4⟩ := Sq.c5 BK104
     obtain ⟨hfz34_0, hfz34_1, hfz34_2, hfz34_3, hfz34_4⟩ := Sq.z5 BK104
     have p108 : 0 ≤ (x5_2 : Int) := of_decide_eq_true (by first | (with_reducible assumption) | assumption)
     have q108 : x5_2 < (l1_0.length : Int) := of_decide_eq_true (by first | (with_reducible assumption) | assumption)
     obtain ⟨ad108, e108, hx108_0, hx108_1, hx108_2⟩ := at_T56 HR1_0.out x5_2 p108 q108
     cases e108
     replace hx108_0 := (HB.out.cell (World.block_lt_of_cell? w _ hx108_0)).trans hx108_0
     replace hx108_1 := (HB.out.cell (World.block_lt_of_cell? w _ hx108_1)).trans hx108_1
     replace hx108_2 := (HB.out.cell (World.block_lt_of_cell? w _ hx108_2)).trans hx108_2
     replace p108 := eq_true p108
     replace q108 := eq_true q108
     go_wp2
     repeat (go_quiet (fail); try go_wp2)
     go_ret
     exact ⟨by first | rfl | (simp [errW_none, errW_some] <;> rfl) | (simp [*, errW_none, errW_some] <;> rfl), by repeat (first | (with_reducible first | exact HB.out | apply below_alloc | apply pw_below_drewN | apply below_drew1 | refine below_set ?_ GE103.out | refine below_set ?_ GE104.out) | exact HB.out)⟩
    rw [if_neg c31] at H
    have c31b0 : (!(((rd_T56 l0_0 x5_2).f0) == ((rd_T56 l1_0 x5_2).f0)) || (!(((rd_T56 l0_0 x5_2).f1) == ((rd_T56 l1_0 x5_2).f1)) || (!((((rd_T56 l0_0 x5_2).f2).toList) == (((rd_T56 l1_0 x5_2).f2).toList))))) = false := by simpa using c31
    clear c31
    have H' := Aside0.mk H
    clear H
    have hnb35 := NB103_104.out
    have hnc35 := NB104_103.out
    obtain ⟨hcz36_0, hcz36_1, hcz36_2, hcz36_3, hcz36_4⟩ := Sq.c5 BK103
    obtain ⟨hfz36_0, hfz36_1, hfz36_2, hfz36_3, hfz36_4⟩ := Sq.z5 BK103
    have p107 : 0 ≤ (x5_2 : Int) := of_decide_eq_true (by first | (with_reducible assumption) | assumption)
    have q107 : x5_2 < (l0_0.length : Int) := of_decide_eq_true (by first | (with_reducible assumption) | assumption)
    obtain ⟨ad107, e107, hx107_0, hx107_1, hx107_2⟩ := at_T56 HR0_0.out x5_2 p107 q107
    cases e107
    replace hx107_0 := (HB.out.cell (World.block_lt_of_cell? w _ hx107_0)).trans hx107_0
    replace hx107_1 := (HB.out.cell (World.block_lt_of_cell? w _ hx107_1)).trans hx107_1
    replace hx107_2 := (HB.out.cell (World.block_lt_of_cell? w _ hx107_2)).trans hx107_2
    replace p107 := eq_true p107
    replace q107 := eq_true q107
    obtain ⟨hcz37_0, hcz37_1, hcz37_2, hcz37_3, hcz37_4⟩ := Sq.c5 BK104
    obtain ⟨hfz37_0, hfz37_1, hfz37_2, hfz37_3, hfz37_4⟩ := Sq.z5 BK104
    have p108 : 0 ≤ (x5_2 : Int) := of_decide_eq_true (by first | (with_reducible assumption) | assumption)
    have q108 : x5_2 < (l1_0.length : Int) := of_decide_eq_true (by first | (with_reducible assumption) | assumption)
    obtain ⟨ad108, e108, hx108_0, hx108_1, hx108_2⟩ := at_T56 HR1_0.out x5_2 p108 q108
    cases e108
    replace hx108_0 := (HB.out.cell (World.block_lt_of_cell? w _ hx108_0)).trans hx108_0
    replace hx108_1 := (HB.out.cell (World.block_lt_of_cell? w _ hx108_1)).trans hx108_1
    replace hx108_2 := (HB.out.cell (World.block_lt_of_cell? w _ hx108_2)).trans hx108_2
    replace p108 := eq_true p108
    replace q108 := eq_true q108
    go_wp2
    repeat (go_quiet (fail); try go_wp2)
    go_roundg k2
    case measure => have := HJ2.out; have := HK2.out; omega
    case rel => exact ⟨(wrap64 (x5_2 + 1)), (by first | rfl | (simp; done) | (simp [*]; done)), H', ⟨by have := HJ2.out; have := HK2.out; omega⟩, ⟨Sq.kb BK103⟩, ⟨Sq.kb BK104⟩, ⟨Sq.kl2 HB GE103 GE104⟩⟩
   rw [if_neg c28] at H
   have c28b0 : decide (x5_2 < (l0_0.length : Int)) = false := decide_eq_false c28
   clear c28
   have H' := Aside0.mk H
   clear H
   have hnb38 := NB103_104.out
   have hnc38 := NB104_103.out
   obtain ⟨hcz39_0, hcz39_1, hcz39_2, hcz39_3, hcz39_4⟩ := Sq.c5 BK103
   obtain ⟨hfz39_0, hfz39_1, hfz39_2, hfz39_3, hfz39_4⟩ := Sq.z5 BK103
   go_wp2
   repeat (go_quiet (fail); try go_wp2)
   go_loopg [6] k2 (fun kq v6 w' => ∃ (x6_3 : Int), v6 = .int .i64 x6_3 ∧ Aside0 (longcaseref06_Same.l1 kq x6_3 l0_0 l0_1 l0_2 l0_3 l0_4 l1_0 l1_1 l1_2 l1_3 l1_4 = some r) ∧ Aside0 (kq ≤ k2) ∧ Aside0 (w'.heap[gb103]? = some (.cells #[(.slice A0_0 l0_0.length c0_0), (.slice A0_1 l0_1.length c0_1), (.slice A0_2 l0_2.length c0_2), (.slice A0_3 l0_3.length c0_3), (.slice A0_4 l0_4.length c0_4)] 31 (0, 0))) ∧ Aside0 (w'.heap[gb104]? = some (.cells #[(.slice A1_0 l1_0.length c1_0), (.slice A1_1 l1_1.length c1_1), (.slice A1_2 l1_2.length c1_2), (.slice A1_3 l1_3.length c1_3), (.slice A1_4 l1_4.length c1_4)] 31 (0, 0))) ∧ Aside0 (Below w.heap.size w w'))
   case atStart => exact ⟨(0), (by first | rfl | (simp; done) | (simp [*]; done)), H', ⟨Nat.le_refl _⟩, ⟨Sq.kb BK103⟩, ⟨Sq.kb BK104⟩, ⟨Sq.kl2 HB GE103 GE104⟩⟩
   clear H'
   try clear c1
   try clear p1
   try clear q1
   try clear hx1
   try clear c2
   try clear p2
   try clear c3
   try clear c6
   try clear c6b0
   try clear c6b1
   try clear c6b2
   try clear p6
   try clear c7
   try clear c7b0
   try clear c7b1
   try clear c7b2
   try clear c8
   try clear c8b0
   try clear c8b1
   try clear c8b2
   try clear c10
   try clear p10
   try clear q10
   try clear hx10
   try clear c12
   try clear c15
   try clear c17
   try clear c18
   try clear c21
   try clear c24
   try clear c27
   try clear c28
   try clear c28b0
   try clear c29
   try clear c29b0
   try clear c30
   try clear c30b0
   try clear c31
   try clear c31b0
   try clear c32
   try clear c35
   try clear c38
   try clear hcz13_0
   try clear hcz13_1
   try clear hcz13_2
   try clear hcz13_3
   try clear hcz13_4
   try clear hcz14_0
   try clear hcz14_1
   try clear hcz14_2
   try clear hcz14_3
   try clear hcz14_4
   try clear hcz16_0
   try clear hcz16_1
   try clear hcz16_2
   try clear hcz16_3
   try clear hcz16_4
   try clear hcz17_0
   try clear hcz17_1
   try clear hcz17_2
   try clear hcz17_3
   try clear hcz17_4
   try clear hcz19_0
   try clear hcz19_1
   try clear hcz19_2
   try clear hcz19_3
   try clear hcz19_4
   try clear hcz20_0
   try clear hcz20_1
   try clear hcz20_2
   try clear hcz20_3
   try clear hcz20_4
   try clear hcz22_0
   try clear hcz22_1
   try clear hcz22_2
   try clear hcz22_3
   try clear hcz22_4
   try clear hcz23_0
   try clear hcz23_1
   try clear hcz23_2
   try clear hcz23_3
   try clear hcz23_4
   try clear hcz25_0
   try clear hcz25_1
   try clear hcz25_2
   try clear hcz25_3
   try clear hcz25_4
   try clear hcz26_0
   try clear hcz26_1
   try clear hcz26_2
   try clear hcz26_3
   try clear hcz26_4
   try clear hcz33_0
   try clear hcz33_1
   try clear hcz33_2
   try clear hcz33_3
   try clear hcz33_4
   try clear hcz34_0
   try clear hcz34_1
   try clear hcz34_2
   try clear hcz34_3
   try clear hcz34_4
   try clear hcz36_0
   try clear hcz36_1
   try clear hcz36_2
   try clear hcz36_3
   try clear hcz36_4
   try clear hcz37_0
   try clear hcz37_1
   try clear hcz37_2
   try clear hcz37_3
   try clear hcz37_4
   try clear hcz39_0
   try clear hcz39_1
   try clear hcz39_2
   try clear hcz39_3
   try clear hcz39_4
   try clear hfz13_0
   try clear hfz13_1
   try clear hfz13_2
   try clear hfz13_3
   try clear hfz13_4
   try clear hfz14_0
   try clear hfz14_1
   try clear hfz14_2
   try clear hfz14_3
   try clear hfz14_4
   try clear hfz16_0
   try clear hfz16_1
   try clear hfz16_2
   try clear hfz16_3
   try clear hfz16_4
   try clear hfz17_0
   try clear hfz17_1
   try clear hfz17_2
   try clear hfz17_3
   try clear hfz17_4
   try clear hfz19_0
   try clear hfz19_1
   try clear hfz19_2
   try clear hfz19_3
   try clear hfz19_4
   try clear hfz20_0
   try clear hfz20_1
   try clear hfz20_2
   try clear hfz20_3
   try clear hfz20_4
   try clear hfz22_0
   try clear hfz22_1
   try clear hfz22_2
   try clear hfz22_3
   try clear hfz22_4
   try clear hfz23_0
   try clear hfz23_1
   try clear hfz23_2
   try clear hfz23_3
   try clear hfz23_4
   try clear hfz25_0
   try clear hfz25_1
   try clear hfz25_2
   try clear hfz25_3
   try clear hfz25_4
   try clear hfz26_0
   try clear hfz26_1
   try clear hfz26_2
   try clear hfz26_3
   try clear hfz26_4
   try clear hfz33_0
   try clear hfz33_1
   try clear hfz33_2
   try clear hfz33_3
   try clear hfz33_4
   try clear hfz34_0
   try clear hfz34_1
   try clear hfz34_2
   try clear hfz34_3
   try clear hfz34_4
   try clear hfz36_0
   try clear hfz36_1
   try clear hfz36_2
   try clear hfz36_3
   try clear hfz36_4
   try clear hfz37_0
   try clear hfz37_1
   try clear hfz37_2
   try clear hfz37_3
   try clear hfz37_4
   try clear hfz39_0
   try clear hfz39_1
   try clear hfz39_2
   try clear hfz39_3
   try clear hfz39_4
   try clear hx107_0
   try clear hx107_1
   try clear hx107_2
   try clear hx108_0
   try clear hx108_1
   try clear hx108_2
   try clear p107
   try clear p108
   try clear p2
   try clear q107
   try clear q108
   obtain ⟨x6_3, rfl, HA, HK3, BK103, BK104, HB⟩ := hrel
   cases gk with
   | zero => exact absurd HA.out (by simp [longcaseref06_Same.l1])
   | succ k3 =>
    have H := HA.out
    clear HA
    simp only [longcaseref06_Same.l1] at H
    by_cases c40 : x6_3 < (l0_1.length : Int)
    ·
     rw [if_pos c40] at H
     have c40b0 : decide (x6_3 < (l0_1.length : Int)) = true := decide_eq_true c40
     clear c40
     by_cases c41 : 0 ≤ x6_3
     rotate_left
     ·
      rw [if_neg c41] at H
      exact absurd H (by simp)
     rw [if_pos c41] at H
     have c41b0 : decide (0 ≤ x6_3) = true := decide_eq_true c41
     clear c41
     by_cases c42 : x6_3 < (l1_1.length : Int)
     rotate_left
     ·
      rw [if_neg c42] at H
      exact absurd H (by simp)
     rw [if_pos c42] at H
     have c42b0 : decide (x6_3 < (l1_1.length : Int)) = true := decide_eq_true c42
     clear c42
     by_cases c43 : (!(((rd_T54 l0_1 x6_3).f0) == ((rd_T54 l1_1 x6_3).f0)) || (!(((rd_T54 l0_1 x6_3).f1) == ((rd_T54 l1_1 x6_3).f1)))) = true
     ·
      rw [if_pos c43] at H
      have c43b0 : (!(((rd_T54 l0_1 x6_3).f0) == ((rd_T54 l1_1 x6_3).f0)) || (!(((rd_T54 l0_1 x6_3).f1) == ((rd_T54 l1_1 x6_3).f1)))) = true := c43
      clear c43
      obtain rfl := Option.some.inj H
      have hnb44 := NB103_104.out
      have hnc44 := NB104_103.out
      obtain ⟨hcz45_0, hcz45_1, hcz45_2, hcz45_3, hcz45_4⟩ := Sq.c5 BK103
      obtain ⟨hfz45_0, hfz45_1, hfz45_2, hfz45_3, hfz45_4⟩ := Sq.z5 BK103
      have p109 : 0 ≤ (x6_3 : Int) := of_decide_eq_true (by first | (with_reducible assumption) | assumption)
      have q109 : x6_3 < (l0_1.length : Int) := of_decide_eq_true (by first | (with_reducible assumption) | assumption)
      obtain ⟨ad109, e109, hx109_0, hx109_1⟩ := at_T54 HR0_1.out x6_3 p109 q109
      cases e109
      replace hx109_0 := (HB.out.cell (World.block_lt_of_cell? w _ hx109_0)).trans hx109_0
      replace hx109_1 := (HB.out.cell (World.block_lt_of_cell? w _ hx109_1)).trans hx109_1
      replace p109 := eq_true p109
      replace q109 := eq_true q109
      obtain ⟨hcz46_0, hcz46_1, hcz46_2, hcz46_3, hcz46_4⟩ := Sq.c5 BK104
      obtain ⟨hfz46_0, hfz46_1, hfz46_2, hfz46_3, hfz46_4⟩ := Sq.z5 BK104
      have p110 : 0 ≤ (x6_3 : Int) := of_decide_eq_true (by first | (with_reducible assumption) | assumption)
      have q110 : x6_3 < (l1_1.length : Int) := of_decide_eq_true (by first | (with_reducible assumption) | assumption)
      obtain ⟨ad110, e110, hx110_0, hx110_1⟩ := at_T54 HR1_1.out x6_3 p110 q110
      cases e110
      replace hx110_0 := (HB.out.cell (World.block_lt_of_cell? w _ hx110_0)).trans hx110_0
      replace hx110_1 := (HB.out.cell (World.block_lt_of_cell? w _ hx110_1)).trans hx110_1
      replace p110 := eq_true p110
      replace q110 := eq_true q110
      go_wp2
      repeat (go_quiet (fail); try go_wp2)
      go_ret
      exact ⟨by first | rfl | (simp [errW_none, errW_some] <;> rfl) | (simp [*, errW_none, errW_some] <;> rfl), by repeat (first | (with_reducible first | exact HB.out | apply below_alloc | apply pw_below_drewN | apply below_drew1 | refine below_set ?_ GE103.out | refine below_set ?_ GE104.out) | exact HB.out)⟩
     rw [if_neg c43] at H
     have c43b0 : (!(((rd_T54 l0_1 x6_3).f0) == ((rd_T54 l1_1 x6_3).f0)) || (!(((rd_T54 l0_1 x6_3).f1) == ((rd_T54 l1_1 x6_3).f1)))) = false := by simpa using c43
     clear c43
     have H' := Aside0.mk H
     clear H
     have hnb47 := NB103_104.out
     have hnc47 := NB104_103.out
     obtain ⟨hcz48_0, hcz48_1, hcz48_2, hcz48_3, hcz48_4⟩ := Sq.c5 BK103
     obtain ⟨hfz48_0, hfz48_1, hfz48_2, hfz48_3, hfz48_4⟩ := Sq.z5 BK103
     have p109 : 0 ≤ (x6_3 : Int) := of_decide_eq_true (by first | (with_reducible assumption) | assumption)
     have q109 : x6_3 < (l0_1.length : Int) := of_decide_eq_true (by first | (with_reducible assumption) | assumption)
     obtain ⟨ad109, e109, hx109_0, hx109_1⟩ := at_T54 HR0_1.out x6_3 p109 q109
     cases e109
     replace hx109_0 := (HB.out.cell (World.block_lt_of_cell? w _ hx109_0)).trans hx109_0
     replace hx109_1 := (HB.out.cell (World.block_lt_of_cell? w _ hx109_1)).trans hx109_1
     replace p109 := eq_true p109
     replace q109 := eq_true q109
     obtain ⟨hcz49_0, hcz49_1, hcz49_2, hcz49_3, hcz49_4⟩ := Sq.c5 BK104
     obtain ⟨hfz49_0, hfz49_1, hfz49_2, hfz49_3, hfz49_4⟩ := Sq.z5 BK104
     have p110 : 0 ≤ (x6_3 : Int) := of_decide_eq_true (by first | (with_reducible assumption) | assumption)
     have q110 : x6_3 < (l1_1.length : Int) := of_decide_eq_true (by first | (with_reducible assumption) | assumption)
     obtain ⟨ad110, e110, hx110_0, hx110_1⟩ := at_T54 HR1_1.out x6_3 p110 q110
     cases e110
     replace hx110_0 := (HB.out.cell (World.block_lt_of_cell? w _ hx110_0)).trans hx110_0
     replace hx110_1 := (HB.out.cell (World.block_lt_of_cell? w _ hx110_1)).trans hx110_1
     replace p110 := eq_true p110
     replace q110 := eq_true q110
     go_wp2
     repeat (go_quiet (fail); try go_wp2)
     go_roundg k3
     case measure => have := HJ2.out; have := HK2.out; have := HK3.out; omega
     case rel => exact ⟨(wrap64 (x6_3 + 1)), (by first | rfl | (simp; done) | (simp [*]; done)), H', ⟨by have := HJ2.out; have := HK2.out; have := HK3.out; omega⟩, ⟨Sq.kb BK103⟩, ⟨Sq.kb BK104⟩, ⟨Sq.kl2 HB GE103 GE104⟩⟩
    rw [if_neg c40] at H
    have c40b0 : decide (x6_3 < (l0_1.length : Int)) = false := decide_eq_false c40
    clear c40
    have H' := Aside0.mk H
    clear H
    have hnb50 := NB103_104.out
    have hnc50 := NB104_103.out
    obtain ⟨hcz51_0, hcz51_1, hcz51_2, hcz51_3, hcz51_4⟩ := Sq.c5 BK103
    obtain ⟨hfz51_0, hfz51_1, hfz51_2, hfz51_3, hfz51_4⟩ := Sq.z5 BK103
    go_wp2
    repeat (go_quiet (fail); try go_wp2)
    go_loopg [7] k3 (fun kq v7 w' => ∃ (x7_4 : Int), v7 = .int .i64 x7_4 ∧ Aside0 (longcaseref06_Same.l2 kq x7_4 l0_0 l0_1 l0_2 l0_3 l0_4 l1_0 l1_1 l1_2 l1_3 l1_4 = some r) ∧ Aside0 (kq ≤ k3) ∧ Aside0 (w'.heap[gb103]? = some (.cells #[(.slice A0_0 l0_0.length c0_0), (.slice A0_1 l0_1.length c0_1), (.slice A0_2 l0_2.length c0_2), (.slice A0_3 l0_3.length c0_3), (.slice A0_4 l0_4.length c0_4)] 31 (0, 0))) ∧ Aside0 (w'.heap[gb104]? = some (.cells #[(.slice A1_0 l1_0.length c1_0), (.slice A1_1 l1_1.length c1_1), (.slice A1_2 l1_2.length c1_2), (.slice A1_3 l1_3.length c1_3), (.slice A1_4 l1_4.length c1_4)] 31 (0, 0))) ∧ Aside0 (Below w.heap.size w w'))
    case atStart => exact ⟨(0), (by first | rfl | (simp; done) | (simp [*]; done)), H', ⟨Nat.le_refl _⟩, ⟨Sq.kb BK103⟩, ⟨Sq.kb BK104⟩, ⟨Sq.kl2 HB GE103 GE104⟩⟩
    clear H'
    try clear c1
    try clear p1
    try clear q1
    try clear hx1
    try clear c2
    try clear p2
    try clear c3
    try clear c4
    try clear c5
    try clear c6
    try clear c6b0
    try clear c6b1
    try clear c6b2
    try clear p6
    try clear c7
    try clear c7b0
    try clear c7b1
    try clear c7b2
    try clear c8
    try clear c8b0
    try clear c8b1
    try clear c8b2
    try clear c10
    try clear p10
    try clear q10
    try clear hx10
    try clear p11
    try clear q11
    try clear hx11
    try clear c12
    try clear c15
    try clear c17
    try clear c18
    try clear c21
    try clear c24
    try clear c27
    try clear c28
    try clear c28b0
    try clear c29
    try clear c29b0
    try clear c30
    try clear c30b0
    try clear c31
    try clear c31b0
    try clear c32
    try clear c35
    try clear c38
    try clear c40
    try clear c40b0
    try clear c41
    try clear c41b0
    try clear c42
    try clear c42b0
    try clear c43
    try clear c43b0
    try clear c44
    try clear c47
    try clear c50
    try clear hcz13_0
    try clear hcz13_1
    try clear hcz13_2
    try clear hcz13_3
    try clear hcz13_4
    try clear hcz14_0
    try clear hcz14_1
    try clear hcz14_2
    try clear hcz14_3
    try clear hcz14_4
    try clear hcz16_0
    try clear hcz16_1
    try clear hcz16_2
    try clear hcz16_3
    try clear hcz16_4
    try clear hcz17_0
    try clear hcz17_1
    try clear hcz17_2
    try clear hcz17_3
    try clear hcz17_4
    try clear hcz19_0
    try clear hcz19_1
    try clear hcz19_2
    try clear hcz19_3
    try clear hcz19_4
    try clear hcz20_0
    try clear hcz20_1
    try clear hcz20_2
    try clear hcz20_3
    try clear hcz20_4
    try clear hcz22_0
    try clear hcz22_1
    try clear hcz22_2
    try clear hcz22_3
    try clear hcz22_4
    try clear hcz23_0
    try clear hcz23_1
    try clear hcz23_2
    try clear hcz23_3
    try clear hcz23_4
    try clear hcz25_0
    try clear hcz25_1
    try clear hcz25_2
    try clear hcz25_3
    try clear hcz25_4
    try clear hcz26_0
    try clear hcz26_1
    try clear hcz26_2
    try clear hcz26_3
    try clear hcz26_4
    try clear hcz33_0
    try clear hcz33_1
    try clear hcz33_2
    try clear hcz33_3
    try clear hcz33_4
    try clear hcz34_0
    try clear hcz34_1
    try clear hcz34_2
    try clear hcz34_3
    try clear hcz34_4
    try clear hcz36_0
    try clear hcz36_1
    try clear hcz36_2
    try clear hcz36_3
    try clear hcz36_4
    try clear hcz37_0
    try clear hcz37_1
    try clear hcz37_2
    try clear hcz37_3
    try clear hcz37_4
    try clear hcz39_0
    try clear hcz39_1
    try clear hcz39_2
    try clear hcz39_3
    try clear hcz39_4
    try clear hcz45_0
    try clear hcz45_1
    try clear hcz45_2
    try clear hcz45_3
    try clear hcz45_4
    try clear hcz46_0
    try clear hcz46_1
    try clear hcz46_2
    try clear hcz46_3
    try clear hcz46_4
    try clear hcz48_0
    try clear hcz48_1
    try clear hcz48_2
    try clear hcz48_3
    try clear hcz48_4
    try clear hcz49_0
    try clear hcz49_1
    try clear hcz49_2
    try clear hcz49_3
    try clear hcz49_4
    try clear hcz51_0
    try clear hcz51_1
    try clear hcz51_2
    try clear hcz51_3
    try clear hcz51_4
    try clear hfz13_0
    try clear hfz13_1
    try clear hfz13_2
    try clear hfz13_3
    try clear hfz13_4
    try clear hfz14_0
    try clear hfz14_1
    try clear hfz14_2
    try clear hfz14_3
    try clear hfz14_4
    try clear hfz16_0
    try clear hfz16_1
    try clear hfz16_2
    try clear hfz16_3
    try clear hfz16_4
    try clear hfz17_0
    try clear hfz17_1
    try clear hfz17_2
    try clear hfz17_3
    try clear hfz17_4
    try clear hfz19_0
    try clear hfz19_1
    try clear hfz19_2
    try clear hfz19_3
    try clear hfz19_4
    try clear hfz20_0
    try clear hfz20_1
    try clear hfz20_2
    try clear hfz20_3
    try clear hfz20_4
    try clear hfz22_0
    try clear hfz22_1
    try clear hfz22_2
    try clear hfz22_3
    try clear hfz22_4
    try clear hfz23_0
    try clear hfz23_1
    try clear hfz23_2
    try clear hfz23_3
    try clear hfz23_4
    try clear hfz25_0
    try clear hfz25_1
    try clear hfz25_2
    try clear hfz25_3
    try clear hfz25_4
    try clear hfz26_0
    try clear hfz26_1
    try clear hfz26_2
    try clear hfz26_3
    try clear hfz26_4
    try clear hfz33_0
    try clear hfz33_1
    try clear hfz33_2
    try clear hfz33_3
    try clear hfz33_4
    try clear hfz34_0
    try clear hfz34_1
    try clear hfz34_2
    try clear hfz34_3
    try clear hfz34_4
    try clear hfz36_0
    try clear hfz36_1
    try clear hfz36_2
    try clear hfz36_3
    try clear hfz36_4
    try clear hfz37_0
    try clear hfz37_1
    try clear hfz37_2
    try clear hfz37_3
    try clear hfz37_4
    try clear hfz39_0
    try clear hfz39_1
    try clear hfz39_2
    try clear hfz39_3
    try clear hfz39_4
    try clear hfz45_0
    try clear hfz45_1
    try clear hfz45_2
    try clear hfz45_3
    try clear hfz45_4
    try clear hfz46_0
    try clear hfz46_1
    try clear hfz46_2
    try clear hfz46_3
    try clear hfz46_4
    try clear hfz48_0
    try clear hfz48_1
    try clear hfz48_2
    try clear hfz48_3
    try clear hfz48_4
    try clear hfz49_0
    try clear hfz49_1
    try clear hfz49_2
    try clear hfz49_3
    try clear hfz49_4
    try clear hfz51_0
    try clear hfz51_1
    try clear hfz51_2
    try clear hfz51_3
    try clear hfz51_4
    try clear hx107_0
    try clear hx107_1
    try clear hx107_2
    try clear hx108_0
    try clear hx108_1
    try clear hx108_2
    try clear hx109_0
    try clear hx109_1
    try clear hx110_0
    try clear hx110_1
    try clear p1
    try clear p10
    try clear p107
    try clear p108
    try clear p109
    try clear p110
    try clear p2
    try clear p6
    try clear q1
    try clear q10
    try clear q107
    try clear q108
    try clear q109
    try clear q110
    obtain ⟨x7_4, rfl, HA, HK4, BK103, BK104, HB⟩ := hrel
    cases gk with
    | zero => exact absurd HA.out (by simp [longcaseref06_Same.l2])
    | succ k4 =>
     have H := HA.out
     clear HA
     simp only [longcaseref06_Same.l2] at H
     by_cases c52 : x7_4 < (l0_2.length : Int)
     rotate_left
     ·
      rw [if_neg c52] at H
      have c52b0 : decide (x7_4 < (l0_2.length : Int)) = false := decide_eq_false c52
      clear c52
      obtain rfl := Option.some.inj H
      have hnb62 := NB103_104.out
      have hnc62 := NB104_103.out
      obtain ⟨hcz63_0, hcz63_1, hcz63_2, hcz63_3, hcz63_4⟩ := Sq.c5 BK103
      obtain ⟨hfz63_0, hfz63_1, hfz63_2, hfz63_3, hfz63_4⟩ := Sq.z5 BK103
      go_wp2
      repeat (go_quiet (fail); try go_wp2)
      go_ret
      exact ⟨by first | rfl | (simp [errW_none, errW_some] <;> rfl) | (simp [*, errW_none, errW_some] <;> rfl), by repeat (first | (with_reducible first | exact HB.out | apply below_alloc | apply pw_below_drewN | apply below_drew1 | refine below_set ?_ GE103.out | refine below_set ?_ GE104.out) | exact HB.out)⟩
     rw [if_pos c52] at H
     have c52b0 : decide (x7_4 < (l0_2.length : Int)) = true := decide_eq_true c52
     clear c52
     by_cases c53 : 0 ≤ x7_4
     rotate_left
     ·
      rw [if_neg c53] at H
      exact absurd H (by simp)
     rw [if_pos c53] at H
     have c53b0 : decide (0 ≤ x7_4) = true := decide_eq_true c53
     clear c53
     by_cases c54 : x7_4 < (l1_2.length : Int)
     rotate_left
     ·
      rw [if_neg c54] at H
      exact absurd H (by simp)
     rw [if_pos c54] at H
     have c54b0 : decide (x7_4 < (l1_2.length : Int)) = true := decide_eq_true c54
     clear c54
     by_cases c55 : (!(((rd_T67 l0_2 x7_4).f0) == ((rd_T67 l1_2 x7_4).f0)) || (!(((rd_T67 l0_2 x7_4).f1) == ((rd_T67 l1_2 x7_4).f1)))) = true
     ·
      rw [if_pos c55] at H
      have c55b0 : (!(((rd_T67 l0_2 x7_4).f0) == ((rd_T67 l1_2 x7_4).f0)) || (!(((rd_T67 l0_2 x7_4).f1) == ((rd_T67 l1_2 x7_4).f1)))) = true := c55
      clear c55
      obtain rfl := Option.some.inj H
      have hnb56 := NB103_104.out
      have hnc56 := NB104_103.out
      obtain ⟨hcz57_0, hcz57_1, hcz57_2, hcz57_3, hcz57_4⟩ := Sq.c5 BK103
      obtain ⟨hfz57_0, hfz57_1, hfz57_2, hfz57_3, hfz57_4⟩ := Sq.z5 BK103
      have p111 : 0 ≤ (x7_4 : Int) := of_decide_eq_true (by first | (with_reducible assumption) | assumption)
      have q111 : x7_4 < (l0_2.length : Int) := of_decide_eq_true (by first | (with_reducible assumption) | assumption)
      obtain ⟨ad111, e111, hx111_0, hx111_1⟩ := at_T67 HR0_2.out x7_4 p111 q111
      cases e111
      replace hx111_0 := (HB.out.cell (World.block_lt_of_cell? w _ hx111_0)).trans hx111_0
      replace hx111_1 := (HB.out.cell (World.block_lt_of_cell? w _ hx111_1)).trans hx111_1
      replace p111 := eq_true p111
      replace q111 := eq_true q111
      obtain ⟨hcz58_0, hcz58_1, hcz58_2, hcz58_3, hcz58_4⟩ := Sq.c5 BK104
      obtain ⟨hfz58_0, hfz58_1, hfz58_2, hfz58_3, hfz58_4⟩ := Sq.z5 BK104
      have p112 : 0 ≤ (x7_4 : Int) := of_decide_eq_true (by first | (with_reducible assumption) | assumption)
      have q112 : x7_4 < (l1_2.length : Int) := of_decide_eq_true (by first | (with_reducible assumption) | assumption)
      obtain ⟨ad112, e112, hx112_0, hx112_1⟩ := at_T67 HR1_2.out x7_4 p112 q112
      cases e112
      replace hx112_0 := (HB.out.cell (World.block_lt_of_cell? w _ hx112_0)).trans hx112_0
      replace hx112_1 := (HB.out.cell (World.block_lt_of_cell? w _ hx112_1)).trans hx112_1
      replace p112 := eq_true p112
      replace q112 := eq_true q112
      go_wp2
      repeat (go_quiet (fail); try go_wp2)
      go_ret
      exact ⟨by first | rfl | (simp [errW_none, errW_some] <;> rfl) | (simp [*, errW_none, errW_some] <;> rfl), by repeat (first | (with_reducible first | exact HB.out | apply below_alloc | apply pw_below_drewN | apply below_drew1 | refine below_set ?_ GE103.out | refine below_set ?_ GE104.out) | exact HB.out)⟩
     rw [if_neg c55] at H
     have c55b0 : (!(((rd_T67 l0_2 x7_4).f0) == ((rd_T67 l1_2 x7_4).f0)) || (!(((rd_T67 l0_2 x7_4).f1) == ((rd_T67 l1_2 x7_4).f1)))) = false := by simpa using c55
     clear c55
     have H' := Aside0.mk H
     clear H
     have hnb59 := NB103_104.out
     have hnc59 := NB104_103.out
     obtain ⟨hcz60_0, hcz60_1, hcz60_2, hcz60_3, hcz60_4⟩ := Sq.c5 BK103
     obtain ⟨hfz60_0, hfz60_1, hfz60_2, hfz60_3, hfz60_4⟩ := Sq.z5 BK103
     have p111 : 0 ≤ (x7_4 : Int) := of_decide_eq_true (by first | (with_reducible assumption) | assumption)
     have q111 : x7_4 < (l0_2.length : Int) := of_decide_eq_true (by first | (with_reducible assumption) | assumption)
     obtain ⟨ad111, e111, hx111_0, hx111_1⟩ := at_T67 HR0_2.out x7_4 p111 q111
     cases e111
     replace hx111_0 := (HB.out.cell (World.block_lt_of_cell? w _ hx111_0)).trans hx111_0
     replace hx111_1 := (HB.out.cell (World.block_lt_of_cell? w _ hx111_1)).trans hx111_1
     replace p111 := eq_true p111
     replace q111 := eq_true q111
     obtain ⟨hcz61_0, hcz61_1, hcz61_2, hcz61_3, hcz61_4⟩ := Sq.c5 BK104
     obtain ⟨hfz61_0, hfz61_1, hfz61_2, hfz61_3, hfz61_4⟩ := Sq.z5 BK104
     have p112 : 0 ≤ (x7_4 : Int) := of_decide_eq_true (by first | (with_reducible assumption) | assumption)
     have q112 : x7_4 < (l1_2.length : Int) := of_decide_eq_true (by first | (with_reducible assumption) | assumption)
     obtain ⟨ad112, e112, hx112_0, hx112_1⟩ := at_T67 HR1_2.out x7_4 p112 q112
     cases e112
     replace hx112_0 := (HB.out.cell (World.block_lt_of_cell? w _ hx112_0)).trans hx112_0
     replace hx112_1 := (HB.out.cell (World.block_lt_of_cell? w _ hx112_1)).trans hx112_1
     replace p112 := eq_true p112
     replace q112 := eq_true q112
     go_wp2
     repeat (go_quiet (fail); try go_wp2)
     go_roundg k4
     case measure => have := HJ2.out; have := HK2.out; have := HK3.out; have := HK4.out; omega
     case rel => exact ⟨(wrap64 (x7_4 + 1)), (by first | rfl | (simp; done) | (simp [*]; done)), H', ⟨by have := HJ2.out; have := HK2.out; have := HK3.out; have := HK4.out; omega⟩, ⟨Sq.kb BK103⟩, ⟨Sq.kb BK104⟩, ⟨Sq.kl2 HB GE103 GE104⟩⟩
end Go.Proofs.Ythobnoknbdljgaa.PM
end
section
namespace Go.Proofs.Ythobnoknbdljgaa
open Go.RowKit Hand PB0 Go.Proofs.YthobnoknbdljgaaW.PrintWords
instance : DecidableEq S56 := fun a b => decidable_of_iff (a.f0 = b.f0 ∧ a.f1 = b.f1 ∧ a.f2.data.toList = b.f2.data.toList) (by
 obtain ⟨a0, a1, ⟨⟨a2⟩⟩⟩ := a
 obtain ⟨b0, b1, ⟨⟨b2⟩⟩⟩ := b
 simp)
instance : DecidableEq S54 := fun a b => decidable_of_iff (a.f0 = b.f0 ∧ a.f1 = b.f1) (by
 cases a; cases b; simp)
instance : DecidableEq S67 := fun a b => decidable_of_iff (a.f0 = b.f0 ∧ a.f1 = b.f1) (by
 cases a; cases b; simp)
theorem ba_eq (x y : ByteArray) : (x.toList == y.toList) = decide (x = y) := by
 rw [ByteArray.toList_eq, ByteArray.toList_eq]
 by_cases h : x = y
 ·
  subst h; simp
 ·
  have : x.data.toList ≠ y.data.toList := fun e => h (by
   obtain ⟨⟨x⟩⟩ := x
   obtain ⟨⟨y⟩⟩ := y
   exact congrArg (fun l : List UInt8 => (⟨⟨l⟩⟩ : ByteArray)) e)
  rw [decide_eq_false h]
  exact beq_eq_false_iff_ne.2 this
theorem ne67 (x y : S67) : (!(x.f0 == y.f0) || !(x.f1 == y.f1)) = !decide (x = y) := by
 obtain ⟨x0, x1⟩ := x
 obtain ⟨y0, y1⟩ := y
 by_cases h0 : x0 = y0 <;> by_cases h1 : x1 = y1 <;> simp [h0, h1]
theorem ne54 (x y : S54) : (!(x.f0 == y.f0) || !(x.f1 == y.f1)) = !decide (x = y) := by
 obtain ⟨x0, x1⟩ := x
 obtain ⟨y0, y1⟩ := y
 by_cases h0 : x0 = y0 <;> by_cases h1 : x1 = y1 <;> simp [h0, h1]
theorem ne56 (x y : S56) : (!(x.f0 == y.f0) || (!(x.f1 == y.f1) || !(x.f2.toList == y.f2.toList))) = !decide (x = y) := by
 rw [ba_eq]
 obtain ⟨x0, x1, x2⟩ := x
 obtain ⟨y0, y1, y2⟩ := y
 by_cases h0 : x0 = y0 <;> by_cases h1 : x1 = y1 <;> by_cases h2 : x2 = y2 <;> simp [h0, h1, h2]
def sameB (a0 : List S56) (a1 : List S54) (a2 : List S67) (a3 a4 : List Bool) (b0 : List S56) (b1 : List S54) (b2 : List S67) (b3 b4 : List Bool) : Bool :=
 decide (a0 = b0 ∧ a1 = b1 ∧ a2 = b2 ∧ a3 = b3 ∧ a4 = b4)
theorem cons_dec {α : Type} [DecidableEq α] (x y : α) (xs ys : List α) : decide (x :: xs = y :: ys) = (decide (x = y) && decide (xs = ys)) := by
 by_cases h : x = y
 ·
  subst h; simp
 ·
  simp [h]
theorem bools_l (a b : List Bool) (hab : a.length = b.length) (ha : a.length ≤ 1000000) (d : Nat) : ∀ (k i : Nat), i + d = a.length → d < k → PM.longcaseref06_bools.l0 k a b i = some (decide (a.drop i = b.drop i)) := by
 induction d with
 | zero =>
  intro k i hi hk
  obtain ⟨k, rfl⟩ : ∃ q, k = q + 1 := ⟨k - 1, by omega⟩
  rw [PM.longcaseref06_bools.l0, if_neg (by omega), List.drop_of_length_le (by omega), List.drop_of_length_le (by omega)]
  rfl
 | succ d ih =>
  intro k i hi hk
  obtain ⟨k, rfl⟩ : ∃ q, k = q + 1 := ⟨k - 1, by omega⟩
  have h1 : i < a.length := by omega
  have h2 : i < b.length := by omega
  have e1 : rdOf false a (i : Int) = a[i] := by unfold rdOf; rw [Int.toNat_natCast, List.getD_eq_getElem?_getD, List.getElem?_eq_getElem h1]; rfl
  have e2 : rdOf false b (i : Int) = b[i] := by unfold rdOf; rw [Int.toNat_natCast, List.getD_eq_getElem?_getD, List.getElem?_eq_getElem h2]; rfl
  rw [PM.longcaseref06_bools.l0, if_pos (by omega), if_pos (by omega), if_pos (by omega), e1, e2, List.drop_eq_getElem_cons h1, List.drop_eq_getElem_cons h2, cons_dec, show wrap64 ((i : Int) + 1) = ((i + 1 : Nat) : Int) by rw [w64 (by omega) (by omega)]; omega, ih k (i + 1) (by omega) (by omega)]
  by_cases e : a[i] = b[i]
  ·
   rw [if_neg (by simp [e]), decide_eq_true e, Bool.true_and]
  ·
   rw [if_pos (by simp [e]), decide_eq_false e, Bool.false_and]
theorem bools_f (k : Nat) (a b : List Bool) (ha : a.length ≤ 1000000) (hk : a.length < k) : PM.longcaseref06_bools.f k a b = some (decide (a = b)) := by
 unfold PM.longcaseref06_bools.f
 by_cases h : a.length = b.length
 ·
  rw [if_pos (by omega)]
  have := bools_l a b h ha a.length k 0 (by omega) hk
  simpa using this
 ·
  rw [if_neg (by omega), decide_eq_false (fun e => h (by rw [e]))]
section
variable (a0 : List S56) (a1 : List S54) (a2 : List S67) (a3 a4 : List Bool) (b0 : List S56) (b1 : List S54) (b2 : List S67) (b3 b4 : List Bool)
theorem same_l2 (h2 : a2.length = b2.length) (ha : a2.length ≤ 1000000) (d : Nat) : ∀ (k i : Nat), i + d = a2.length → d < k → PM.longcaseref06_Same.l2 k i a0 a1 a2 a3 a4 b0 b1 b2 b3 b4 = some (decide (a2.drop i = b2.drop i)) := by
 induction d with
 | zero =>
  intro k i hi hk
  obtain ⟨k, rfl⟩ : ∃ q, k = q + 1 := ⟨k - 1, by omega⟩
  rw [PM.longcaseref06_Same.l2, if_neg (by omega), List.drop_of_length_le (by omega), List.drop_of_length_le (by omega)]
  rfl
 | succ d ih =>
  intro k i hi hk
  obtain ⟨k, rfl⟩ : ∃ q, k = q + 1 := ⟨k - 1, by omega⟩
  have q1 : i < a2.length := by omega
  have q2 : i < b2.length := by omega
  rw [PM.longcaseref06_Same.l2, if_pos (by omega), if_pos (by omega), if_pos (by omega), rd67 a2 i q1, rd67 b2 i q2, List.drop_eq_getElem_cons q1, List.drop_eq_getElem_cons q2, cons_dec, show wrap64 ((i : Int) + 1) = ((i + 1 : Nat) : Int) by rw [w64 (by omega) (by omega)]; omega, ih k (i + 1) (by omega) (by omega)]
  rw [ne67]
  by_cases e : a2[i] = b2[i]
  ·
   rw [decide_eq_true e, if_neg (by decide), Bool.true_and]
  ·
   rw [decide_eq_false e, if_pos (by decide), Bool.false_and]
theorem same_l1 (h1 : a1.length = b1.length) (h2 : a2.length = b2.length) (ha1 : a1.length ≤ 1000000) (ha : a2.length ≤ 1000000) (d : Nat) : ∀ (k i : Nat), i + d = a1.length → d + a2.length + 1 < k → PM.longcaseref06_Same.l1 k i a0 a1 a2 a3 a4 b0 b1 b2 b3 b4 = some (decide (a1.drop i = b1.drop i) && decide (a2 = b2)) := by
 induction d with
 | zero =>
  intro k i hi hk
  obtain ⟨k, rfl⟩ : ∃ q, k = q + 1 := ⟨k - 1, by omega⟩
  have h := same_l2 a0 a1 a2 a3 a4 b0 b1 b2 b3 b4 h2 ha a2.length k 0 (by omega) (by omega)
  rw [PM.longcaseref06_Same.l1, if_neg (by omega), List.drop_of_length_le (by omega), List.drop_of_length_le (by omega)]
  simpa using h
 | succ d ih =>
  intro k i hi hk
  obtain ⟨k, rfl⟩ : ∃ q, k = q + 1 := ⟨k - 1, by omega⟩
  have q1 : i < a1.length := by omega
  have q2 : i < b1.length := by omega
  rw [PM.longcaseref06_Same.l1, if_pos (by omega), if_pos (by omega), if_pos (by omega), rd54 a1 i q1, rd54 b1 i q2, List.drop_eq_getElem_cons q1, List.drop_eq_getElem_cons q2, cons_dec, show wrap64 ((i : Int) + 1) = ((i + 1 : Nat) : Int) by rw [w64 (by omega) (by omega)]; omega, ih k (i + 1) (by omega) (by omega)]
  rw [ne54]
  by_cases e : a1[i] = b1[i]
  ·
   rw [decide_eq_true e, if_neg (by decide), Bool.true_and]
  ·
   rw [decide_eq_false e, if_pos (by decide), Bool.false_and, Bool.false_and]
theorem same_l0 (h0 : a0.length = b0.length) (h1 : a1.length = b1.length) (h2 : a2.length = b2.length) (ha0 : a0.length ≤ 1000000) (ha1 : a1.length ≤ 1000000) (ha : a2.length ≤ 1000000) (d : Nat) : ∀ (k i : Nat), i + d = a0.length → d + a1.length + a2.length + 2 < k → PM.longcaseref06_Same.l0 k i a0 a1 a2 a3 a4 b0 b1 b2 b3 b4 = some (decide (a0.drop i = b0.drop i) && (decide (a1 = b1) && decide (a2 = b2))) := by
 induction d with
 | zero =>
  intro k i hi hk
  obtain ⟨k, rfl⟩ : ∃ q, k = q + 1 := ⟨k - 1, by omega⟩
  have h := same_l1 a0 a1 a2 a3 a4 b0 b1 b2 b3 b4 h1 h2 ha1 ha a1.length k 0 (by omega) (by omega)
  rw [PM.longcaseref06_Same.l0, if_neg (by omega), List.drop_of_length_le (by omega), List.drop_of_length_le (by omega)]
  simpa using h
 | succ d ih =>
  intro k i hi hk
  obtain ⟨k, rfl⟩ : ∃ q, k = q + 1 := ⟨k - 1, by omega⟩
  have q1 : i < a0.length := by omega
  have q2 : i < b0.length := by omega
  rw [PM.longcaseref06_Same.l0, if_pos (by omega), if_pos (by omega), if_pos (by omega), rd56 a0 i q1, rd56 b0 i q2, List.drop_eq_getElem_cons q1, List.drop_eq_getElem_cons q2, cons_dec, show wrap64 ((i : Int) + 1) = ((i + 1 : Nat) : Int) by rw [w64 (by omega) (by omega)]; omega, ih k (i + 1) (by omega) (by omega)]
  rw [ne56]
  by_cases e : a0[i] = b0[i]
  ·
   rw [decide_eq_true e, if_neg (by decide), Bool.true_and]
  ·
   rw [decide_eq_false e, if_pos (by decide), Bool.false_and, Bool.false_and]
theorem same_f (k : Nat) (hk : a0.length + a1.length + a2.length + a3.length + a4.length + 5 < k) (ha : a0.length ≤ 1000000 ∧ a1.length ≤ 1000000 ∧ a2.length ≤ 1000000 ∧ a3.length ≤ 1000000 ∧ a4.length ≤ 1000000) :
  PM.longcaseref06_Same.f k a0 a1 a2 a3 a4 b0 b1 b2 b3 b4 = some (sameB a0 a1 a2 a3 a4 b0 b1 b2 b3 b4) := by
 obtain ⟨k, rfl⟩ : ∃ q, k = q + 1 := ⟨k - 1, by omega⟩
 unfold PM.longcaseref06_Same.f sameB
 have no : PM.longcaseref06_Same.j0 (k + 1) true a0 a1 a2 a3 a4 b0 b1 b2 b3 b4 = some false := by rw [PM.longcaseref06_Same.j0, if_pos rfl]
 by_cases h0 : a0.length = b0.length
 ·
  rw [if_pos (by omega)]
  by_cases h1 : a1.length = b1.length
  ·
   rw [if_pos (by omega)]
   by_cases h2 : a2.length = b2.length
   ·
    rw [if_pos (by omega), bools_f _ a3 b3 ha.2.2.2.1 (by omega), Option.bind_some]
    by_cases h3 : a3 = b3
    ·
     rw [decide_eq_true h3, if_pos rfl, bools_f _ a4 b4 ha.2.2.2.2 (by omega), Option.bind_some, PM.longcaseref06_Same.j0]
     by_cases h4 : a4 = b4
     ·
      rw [decide_eq_true h4, if_neg (by decide)]
      have h := same_l0 a0 a1 a2 a3 a4 b0 b1 b2 b3 b4 h0 h1 h2 ha.1 ha.2.1 ha.2.2.1 a0.length k 0 (by omega) (by omega)
      rw [show ((0 : Nat) : Int) = 0 from rfl] at h
      rw [h, List.drop_zero, List.drop_zero]
      simp [h3, h4]
     ·
      rw [decide_eq_false h4, if_pos (by rfl), decide_eq_false (fun h => h4 h.2.2.2.2)]
    ·
     rw [decide_eq_false h3, if_neg (by decide), no, decide_eq_false (fun h => h3 h.2.2.2.1)]
   ·
    rw [if_neg (by omega), no, decide_eq_false (fun h => h2 (by rw [h.2.2.1]))]
  ·
   rw [if_neg (by omega), no, decide_eq_false (fun h => h1 (by rw [h.2.1]))]
 ·
  rw [if_neg (by omega), no, decide_eq_false (fun h => h0 (by rw [h.1]))]
end
end Go.Proofs.Ythobnoknbdljgaa
end
section
namespace Go.Proofs.Ythobnoknbdljgaa.Hand
open Go.RowKit Go.Proofs.YthobnoknbdljgaaW.PrintWords Go.Proofs.YthobnoknbdljgaaW.PrintLast Go.Proofs.YthobnoknbdljgaaW.PrintMore PB0
set_option linter.unusedVariables false
set_option linter.unusedSimpArgs false
set_option maxHeartbeats 4000000 in
set_option maxRecDepth 100000 in
theorem ref_walk (A0 A1 A2 A3 A4 : Option Addr) (n0 n1 n2 n3 n4 c0 c1 c2 c3 c4 : Nat) (w : World) :
  Calls Try.prog 14 #[.agg #[.slice A0 n0 c0, .slice A1 n1 c1, .slice A2 n2 c2, .slice A3 n3 c3, .slice A4 n4 c4]] w fun e w' => e = .returned (.agg #[.slice A0 n0 c0, .slice A1 n1 c1, .slice A2 n2 c2, .slice A3 n3 c3, .slice A4 n4 c4]) ∧ Below w.heap.size w w' := by
 have hu27 := Try.underlying27
 have hu31 := Try.underlying31
 have HB := Aside0.mk (Below.refl w.heap.size w)
 go_enter Try.func14, Try.ntmps14
 go_upto_region 1 with (first
  | ((with_reducible refine gate_dst (N := 1) rfl ?_); refine box_event ?hg (N := 1) ?hd (cs := #[.slice A0 n0 c0, .slice A1 n1 c1, .slice A2 n2 c2, .slice A3 n3 c3, .slice A4 n4 c4]) (t := 27) ?hr ?_; (case hd => rfl); (case hg => rfl); (case hr => first | (go_simp; done) | (go_simp; rfl)); intro g1 hg w1 hbox hb; have Bg1 := Aside0.mk hbox; have GEg1 := Aside0.mk (show w.heap.size ≤ g1 by first | omega | (have h_ := below_size HB.out; omega)); clear hbox hg; have n0_ := Aside0.mk (below_step HB.out hb); clear HB; have HB := n0_; clear n0_ hb)
  | ((with_reducible refine gate_dst (N := 2) rfl ?_); refine box_event ?hg (N := 2) ?hd (cs := #[.slice none 0 0, .slice none 0 0, .slice none 0 0, .slice none 0 0, .slice none 0 0]) (t := 31) ?hr ?_; (case hd => rfl); (case hg => rfl); (case hr => first | (go_simp; done) | (go_simp; rfl)); intro g2 hg w2 hbox hb; have Bg2 := Aside0.mk hbox; have GEg2 := Aside0.mk (show w.heap.size ≤ g2 by first | omega | (have h_ := below_size HB.out; omega)); clear hbox hg; have n0_ := Aside0.mk (blk_below Bg1.out hb); have n1_ := Aside0.mk (below_step HB.out hb); clear Bg1 HB; have Bg1 := n0_; have HB := n1_; clear n0_ n1_ hb; obtain ⟨t0, t1, t2, t3, t4⟩ := Sq.c5 Bg1; obtain ⟨z0, z1, z2, z3, z4⟩ := Sq.c5 Bg2; have y0 := blk_frozen Bg2.out 0; have y1 := blk_frozen Bg2.out 1; have y2 := blk_frozen Bg2.out 2; have y3 := blk_frozen Bg2.out 3; have y4 := blk_frozen Bg2.out 4))
 go_wp2
 refine bodyPost_ret (results_cell_row rfl _ _ g2 31 _ (0, 0) _ rfl (put5_at Bg2.out) Try.underlying31 rfl (by kernel_rfl)) rfl ?_
 exact ⟨rfl, put5_below HB.out GEg2.out⟩
end Go.Proofs.Ythobnoknbdljgaa.Hand
namespace Go.Proofs.Ythobnoknbdljgaa.Stub2
open Go.RowKit Go.Proofs.YthobnoknbdljgaaW.PrintWords PB0 Hand
def longcaselaw06_ref.f (l0 : List S56) (l1 : List S54) (l2 : List S67) (l3 l4 : List Bool) : Option (List S56 × List S54 × List S67 × List Bool × List Bool) := some (l0, l1, l2, l3, l4)
theorem longcaselaw06_ref.calls (A0_0 : Option Addr) (c0_0 : Nat) (l0_0 : List S56) (A0_1 : Option Addr) (c0_1 : Nat) (l0_1 : List S54) (A0_2 : Option Addr) (c0_2 : Nat) (l0_2 : List S67) (A0_3 : Option Addr) (c0_3 : Nat) (l0_3 : List Bool) (A0_4 : Option Addr) (c0_4 : Nat) (l0_4 : List Bool) (t0 : List S56) (t1 : List S54) (t2 : List S67) (t3 t4 : List Bool) (w : World) (h : longcaselaw06_ref.f l0_0 l0_1 l0_2 l0_3 l0_4 = some (t0, t1, t2, t3, t4)) :
  Calls Try.prog 14 #[.agg #[.slice A0_0 l0_0.length c0_0, .slice A0_1 l0_1.length c0_1, .slice A0_2 l0_2.length c0_2, .slice A0_3 l0_3.length c0_3, .slice A0_4 l0_4.length c0_4]] w fun e w' => ∃ v0 v1 v2 v3 v4 : Value, e = .returned (.agg #[v0, v1, v2, v3, v4]) ∧
   (∀ b ok, Kd.R k56 56 w b ok (.slice A0_0 l0_0.length c0_0) l0_0 → Kd.R k56 56 w' b ok v0 t0) ∧ (∀ b ok, Kd.R k54 54 w b ok (.slice A0_1 l0_1.length c0_1) l0_1 → Kd.R k54 54 w' b ok v1 t1) ∧
   (∀ b ok, Kd.R k67 67 w b ok (.slice A0_2 l0_2.length c0_2) l0_2 → Kd.R k67 67 w' b ok v2 t2) ∧ (∀ b ok, Kd.R Kd.bool 4 w b ok (.slice A0_3 l0_3.length c0_3) l0_3 → Kd.R Kd.bool 4 w' b ok v3 t3) ∧
   (∀ b ok, Kd.R Kd.bool 4 w b ok (.slice A0_4 l0_4.length c0_4) l0_4 → Kd.R Kd.bool 4 w' b ok v4 t4) ∧ Below w.heap.size w w' := by
 unfold longcaselaw06_ref.f at h
 simp only [Option.some.injEq, Prod.mk.injEq] at h
 obtain ⟨rfl, rfl, rfl, rfl, rfl⟩ := h
 refine (ref_walk _ _ _ _ _ _ _ _ _ _ _ _ _ _ _ w).mono ?_
 rintro e w' ⟨rfl, hb⟩
 exact ⟨_, _, _, _, _, rfl, fun _ _ h => Kd.R_below h hb, fun _ _ h => Kd.R_below h hb, fun _ _ h => Kd.R_below h hb, fun _ _ h => Kd.R_below h hb, fun _ _ h => Kd.R_below h hb, hb⟩
def longcaseref06_Same.f (a0 : List S56) (a1 : List S54) (a2 : List S67) (a3 a4 : List Bool) (b0 : List S56) (b1 : List S54) (b2 : List S67) (b3 b4 : List Bool) : Option Bool :=
 if a0.length ≤ 1000000 ∧ a1.length ≤ 1000000 ∧ a2.length ≤ 1000000 ∧ a3.length ≤ 1000000 ∧ a4.length ≤ 1000000 then some (sameB a0 a1 a2 a3 a4 b0 b1 b2 b3 b4) else none
theorem longcaseref06_Same.calls (A0_0 : Option Addr) (c0_0 : Nat) (l0_0 : List S56) (A0_1 : Option Addr) (c0_1 : Nat) (l0_1 : List S54) (A0_2 : Option Addr) (c0_2 : Nat) (l0_2 : List S67) (A0_3 : Option Addr) (c0_3 : Nat) (l0_3 : List Bool) (A0_4 : Option Addr) (c0_4 : Nat) (l0_4 : List Bool) (A1_0 : Option Addr) (c1_0 : Nat) (l1_0 : List S56) (A1_1 : Option Addr) (c1_1 : Nat) (l1_1 : List S54) (A1_2 : Option Addr) (c1_2 : Nat) (l1_2 : List S67) (A1_3 : Option Addr) (c1_3 : Nat) (l1_3 : List Bool) (A1_4 : Option Addr) (c1_4 : Nat) (l1_4 : List Bool) (r : Bool) (w : World) (hr0_0 : Kd.C k56 w A0_0 l0_0.length l0_0) (hc0_0 : l0_0.length ≤ c0_0) (hr0_1 : Kd.C k54 w A0_1 l0_1.length l0_1) (hc0_1 : l0_1.length ≤ c0_1) (hr0_2 : Kd.C k67 w A0_2 l0_2.length l0_2) (hc0_2 : l0_2.length ≤ c0_2) (hr0_3 : Kd.C Kd.bool w A0_3 l0_3.length l0_3) (hc0_3 : l0_3.length ≤ c0_3) (hr0_4 : Kd.C Kd.bool w A0_4 l0_4.length l0_4) (hc0_4 : l0_4.length ≤ c0_4) (hr1_0 : Kd.C k56 w A1_0 l1_0.length l1_0) (hc1_0 : l1_0.length ≤ c1_0) (hr1_1 : Kd.C k54 w A1_1 l1_1.length l1_1) (hc1_1 : l1_1.length ≤ c1_1) (hr1_2 : Kd.C k67 w A1_2 l1_2.length l1_2) (hc1_2 : l1_2.length ≤ c1_2) (hr1_3 : Kd.C Kd.bool w A1_3 l1_3.length l1_3) (hc1_3 : l1_3.length ≤ c1_3) (hr1_4 : Kd.C Kd.bool w A1_4 l1_4.length l1_4) (hc1_4 : l1_4.length ≤ c1_4) (h : longcaseref06_Same.f l0_0 l0_1 l0_2 l0_3 l0_4 l1_0 l1_1 l1_2 l1_3 l1_4 = some r) :
  Calls Try.prog 17 #[.agg #[.slice A0_0 l0_0.length c0_0, .slice A0_1 l0_1.length c0_1, .slice A0_2 l0_2.length c0_2, .slice A0_3 l0_3.length c0_3, .slice A0_4 l0_4.length c0_4], .agg #[.slice A1_0 l1_0.length c1_0, .slice A1_1 l1_1.length c1_1, .slice A1_2 l1_2.length c1_2, .slice A1_3 l1_3.length c1_3, .slice A1_4 l1_4.length c1_4]] w fun e w' => e = .returned (.bool r) ∧ Below w.heap.size w w' := by
 unfold longcaseref06_Same.f at h
 split at h
 ·
  rename_i hh
  exact PM.longcaseref06_Same.calls _ A0_0 c0_0 l0_0 A0_1 c0_1 l0_1 A0_2 c0_2 l0_2 A0_3 c0_3 l0_3 A0_4 c0_4 l0_4 A1_0 c1_0 l1_0 A1_1 c1_1 l1_1 A1_2 c1_2 l1_2 A1_3 c1_3 l1_3 A1_4 c1_4 l1_4 r w hr0_0 hc0_0 hr0_1 hc0_1 hr0_2 hc0_2 hr0_3 hc0_3 hr0_4 hc0_4 hr1_0 hc1_0 hr1_1 hc1_1 hr1_2 hc1_2 hr1_3 hc1_3 hr1_4 hc1_4 ((same_f _ _ _ _ _ _ _ _ _ _ _ (Nat.lt_succ_self _) hh).trans h)
 ·
  cases h
end Go.Proofs.Ythobnoknbdljgaa.Stub2
end
section
namespace Go.Proofs.Ythobnoknbdljgaa.PR
open Go.Proofs.Ythobnoknbdljgaa.PB0 Sq
open Go.RowKit Go.Proofs.YthobnoknbdljgaaW.PrintWords Go.Proofs.YthobnoknbdljgaaW.PrintLast Go.Proofs.YthobnoknbdljgaaW.PrintMore
attribute [local go_sem] max2_int min2_int max_two min_two
set_option linter.unusedVariables false
set_option linter.unusedSimpArgs false
theorem info3 : (Try.prog.info? 3).map (fun i => (i.zero, i.size, i.bytes)) = some (some (.int .i64 0), 1, 8) := by kernel_rfl
end Go.Proofs.Ythobnoknbdljgaa.PR
end
section
namespace Go.Proofs.Ythobnoknbdljgaa.PR
open Go.Proofs.Ythobnoknbdljgaa.PB0 Sq
open Go.RowKit Go.Proofs.YthobnoknbdljgaaW.PrintWords Go.Proofs.YthobnoknbdljgaaW.PrintLast Go.Proofs.YthobnoknbdljgaaW.PrintMore
attribute [local go_sem] max2_int min2_int max_two min_two
set_option linter.unusedVariables false
set_option linter.unusedSimpArgs false
mutual
def longcaseref06_Names.l0 : Nat → List (S56) → List Int → List Int → Int → Option (List Int × List Int)
 | 0, _, _, _, _ => none
 | k + 1, x0, x4, x5, x6 => if x6 < (x0.length : Int) then (longcaseref06_Names.l1 k x0 x4 x5 x6 (-1) 0) else (some (x4, x5))
def longcaseref06_Names.l1 : Nat → List (S56) → List Int → List Int → Int → Int → Int → Option (List Int × List Int)
 | 0, _, _, _, _, _, _ => none
 | k + 1, x0, x4, x5, x6, x7, x8 => if x8 < x6 then (longcaseref06_Names.j2 k x0 x4 x5 x6 x7 x8 (decide (x7 < 0))) else (longcaseref06_Names.j2 k x0 x4 x5 x6 x7 x8 false)
def longcaseref06_Names.j2 : Nat → List (S56) → List Int → List Int → Int → Int → Int → Bool → Option (List Int × List Int)
 | 0, _, _, _, _, _, _, _ => none
 | k + 1, x0, x4, x5, x6, x7, x8, x23 => if x23 = true then (if 0 ≤ x8 then (if x8 < (x0.length : Int) then (if 0 ≤ x6 then (if x6 < (x0.length : Int) then (if ((rd_T56 x0 x8).f2).toList = ((rd_T56 x0 x6).f2).toList then (if x8 < (x5.length : Int) then (longcaseref06_Names.l1 k x0 x4 x5 x6 (rd x5 x8) (wrap64 (x8 + 1))) else (none)) else (longcaseref06_Names.l1 k x0 x4 x5 x6 x7 (wrap64 (x8 + 1)))) else (none)) else (none)) else (none)) else (none)) else (if x7 < 0 then (if 0 ≤ x6 then (if x6 < (x0.length : Int) then (if x4.length + ((rd_T56 x0 x6).f2).size < 140737488355328 then ((some (x4 ++ bytesOf ((rd_T56 x0 x6).f2) : List Int)).bind fun y111 => (if y111.length < 140737488355328 then (if x5.length < 17592186044416 then (longcaseref06_Names.l0 k x0 (y111 ++ [0]) (x5 ++ [(x4.length : Int)]) (wrap64 (x6 + 1))) else (none)) else (none))) else (none)) else (none)) else (none)) else (if x5.length < 17592186044416 then (longcaseref06_Names.l0 k x0 x4 (x5 ++ [x7]) (wrap64 (x6 + 1))) else (none)))
end
def longcaseref06_Names.f (k : Nat) (l0 : List (S56)) : Option (List Int × List Int) := longcaseref06_Names.l0 k l0 (([] : List Int)) (([] : List Int)) 0
set_option maxHeartbeats 8000000 in
set_option maxRecDepth 100000 in
theorem longcaseref06_Names.calls (k : Nat) (A0 : Option Addr) (c0 : Nat) (l0 : List (S56)) (r1 : List Int) (r2 : List Int) (w : World) (hr0 : Kd.C k56 w A0 l0.length l0) (hc0 : l0.length ≤ c0) (h : longcaseref06_Names.f k l0 = some (r1, r2)) :
  Calls Try.prog 24 #[.slice A0 l0.length c0] w fun e w' => ∃ v0_ v1_ : Value, e = .returned (.tuple #[v0_, v1_]) ∧ Kd.R (Kd.int .u8) 5 w' w.heap.size (fun _ => True) v0_ r1 ∧ Kd.R (Kd.int .i64) 3 w' w.heap.size (fun _ => True) v1_ r2 ∧ Below w.heap.size w w' := by
 have HR0 := Aside0.mk hr0
 have HC0 := Aside0.mk hc0
 clear hr0 hc0
 have HB := Aside0.mk (Below.refl w.heap.size w)
 have H : (longcaseref06_Names.l0 k l0 (([] : List Int)) (([] : List Int)) 0) = some (r1, r2) := h
 clear h
 obtain ⟨y101, hy101⟩ : ∃ y_ : List Int, y_ = (([] : List Int)) := ⟨_, rfl⟩
 replace H : (longcaseref06_Names.l0 k l0 y101 (([] : List Int)) 0) = some (r1, r2) := by first | (rw [hy101]; with_reducible exact H) | (have H2_ := (Option.bind_some _ _).symm.trans H; rw [hy101]; with_reducible exact H2_) | (have H2_ := (Option.bind_some _ _).symm.trans H; with_reducible exact H2_) | with_reducible exact H | (rw [hy101]; exact H) | exact H
 have Ny101 := Aside0.mk hy101
 clear hy101
 obtain ⟨y104, hy104⟩ : ∃ y_ : List Int, y_ = (([] : List Int)) := ⟨_, rfl⟩
 replace H : (longcaseref06_Names.l0 k l0 y101 y104 0) = some (r1, r2) := by first | (rw [hy104]; with_reducible exact H) | (have H2_ := (Option.bind_some _ _).symm.trans H; rw [hy104]; with_reducible exact H2_) | (have H2_ := (Option.bind_some _ _).symm.trans H; with_reducible exact H2_) | with_reducible exact H | (rw [hy104]; exact H) | exact H
 have Ny104 := Aside0.mk hy104
 clear hy104
 have H' := Aside0.mk H
 clear H
 go_enter Try.func24, Try.ntmps24
 go_wp2_with (first | ((with_reducible refine gate_dst (N := 9) rfl ?_); refine Kd.R_lit (Kd.int .u8) _ 5 ?hg (N := 9) ?hd (xs := ([] : List Int)) (inner := []) (ok := fun _ => True) (okp := fun _ => True) ?hr ?hp (fun _ hk => hk) trivial (Below.refl _ _) (Nat.le_refl _) (by simp) ?_; (case hd => rfl); (case hg => rfl); (case hr => first | (go_simp; done) | (go_simp; rfl)); (case hp => exact (Reps.none _ _)); intro v102 w2 ho3 hb hg_ hnew_; clear hg_ hnew_; (first | rw [← Ny101.out] at ho3 | (simp only [Int.reduceToNat] at ho3; rw [← Ny101.out] at ho3)); have HO103 := Aside0.mk (Kd.R_lower ho3 (below_size (Sq.kl HB))); replace HB := Aside0.mk (below_step (Sq.kl HB) hb); clear hb ho3) | ((with_reducible refine gate_dst (N := 10) rfl ?_); refine Kd.R_lit (Kd.int .i64) _ 3 ?hg (N := 10) ?hd (xs := ([] : List Int)) (inner := []) (ok := fun _ => True) (okp := fun _ => True) ?hr ?hp (fun _ hk => hk) trivial (Below.refl _ _) (Nat.le_refl _) (by simp) ?_; (case hd => rfl); (case hg => rfl); (case hr => first | (go_simp; done) | (go_simp; rfl)); (case hp => exact (Reps.none _ _)); intro v105 w4 ho5 hb hg_ hnew_; clear hg_ hnew_; (first | rw [← Ny104.out] at ho5 | (simp only [Int.reduceToNat] at ho5; rw [← Ny104.out] at ho5)); replace HO103 := krb HO103 hb; have HO106 := Aside0.mk (Kd.R_lower ho5 (below_size (Sq.kl HB))); replace HB := Aside0.mk (below_step (Sq.kl HB) hb); clear hb ho5))
 repeat (go_quiet (first | ((with_reducible refine gate_dst (N := 9) rfl ?_); refine Kd.R_lit (Kd.int .u8) _ 5 ?hg (N := 9) ?hd (xs := ([] : List Int)) (inner := []) (ok := fun _ => True) (okp := fun _ => True) ?hr ?hp (fun _ hk => hk) trivial (Below.refl _ _) (Nat.le_refl _) (by simp) ?_; (case hd => rfl); (case hg => rfl); (case hr => first | (go_simp; done) | (go_simp; rfl)); (case hp => exact (Reps.none _ _)); intro v102 w2 ho3 hb hg_ hnew_; clear hg_ hnew_; (first | rw [← Ny101.out] at ho3 | (simp only [Int.reduceToNat] at ho3; rw [← Ny101.out] at ho3)); have HO103 := Aside0.mk (Kd.R_lower ho3 (below_size (Sq.kl HB))); replace HB := Aside0.mk (below_step (Sq.kl HB) hb); clear hb ho3) | ((with_reducible refine gate_dst (N := 10) rfl ?_); refine Kd.R_lit (Kd.int .i64) _ 3 ?hg (N := 10) ?hd (xs := ([] : List Int)) (inner := []) (ok := fun _ => True) (okp := fun _ => True) ?hr ?hp (fun _ hk => hk) trivial (Below.refl _ _) (Nat.le_refl _) (by simp) ?_; (case hd => rfl); (case hg => rfl); (case hr => first | (go_simp; done) | (go_simp; rfl)); (case hp => exact (Reps.none _ _)); intro v105 w4 ho5 hb hg_ hnew_; clear hg_ hnew_; (first | rw [← Ny104.out] at ho5 | (simp only [Int.reduceToNat] at ho5; rw [← Ny104.out] at ho5)); replace HO103 := krb HO103 hb; have HO106 := Aside0.mk (Kd.R_lower ho5 (below_size (Sq.kl HB))); replace HB := Aside0.mk (below_step (Sq.kl HB) hb); clear hb ho5)); try go_wp2_with (first | ((with_reducible refine gate_dst (N := 9) rfl ?_); refine Kd.R_lit (Kd.int .u8) _ 5 ?hg (N := 9) ?hd (xs := ([] : List Int)) (inner := []) (ok := fun _ => True) (okp := fun _ => True) ?hr ?hp (fun _ hk => hk) trivial (Below.refl _ _) (Nat.le_refl _) (by simp) ?_; (case hd => rfl); (case hg => rfl); (case hr => first | (go_simp; done) | (go_simp; rfl)); (case hp => exact (Reps.none _ _)); intro v102 w2 ho3 hb hg_ hnew_; clear hg_ hnew_; (first | rw [← Ny101.out] at ho3 | (simp only [Int.reduceToNat] at ho3; rw [← Ny101.out] at ho3)); have HO103 := Aside0.mk (Kd.R_lower ho3 (below_size (Sq.kl HB))); replace HB := Aside0.mk (below_step (Sq.kl HB) hb); clear hb ho3) | ((with_reducible refine gate_dst (N := 10) rfl ?_); refine Kd.R_lit (Kd.int .i64) _ 3 ?hg (N := 10) ?hd (xs := ([] : List Int)) (inner := []) (ok := fun _ => True) (okp := fun _ => True) ?hr ?hp (fun _ hk => hk) trivial (Below.refl _ _) (Nat.le_refl _) (by simp) ?_; (case hd => rfl); (case hg => rfl); (case hr => first | (go_simp; done) | (go_simp; rfl)); (case hp => exact (Reps.none _ _)); intro v105 w4 ho5 hb hg_ hnew_; clear hg_ hnew_; (first | rw [← Ny104.out] at ho5 | (simp only [Int.reduceToNat] at ho5; rw [← Ny104.out] at ho5)); replace HO103 := krb HO103 hb; have HO106 := Aside0.mk (Kd.R_lower ho5 (below_size (Sq.kl HB))); replace HB := Aside0.mk (below_step (Sq.kl HB) hb); clear hb ho5)))
 go_loopg [4, 5, 6] k (fun kq v4 v5 v6 w' => ∃ (x4_1 : List Int) (x5_1 : List Int) (x6_1 : Int), v6 = .int .i64 x6_1 ∧ Aside0 (longcaseref06_Names.l0 kq l0 x4_1 x5_1 x6_1 = some (r1, r2)) ∧ Aside0 (kq ≤ k) ∧ Aside0 (Kd.R (Kd.int .u8) 5 w' w.heap.size (fun _ => True) v4 x4_1) ∧ Aside0 (Kd.R (Kd.int .i64) 3 w' w.heap.size (fun _ => True) v5 x5_1) ∧ Aside0 (Below w.heap.size w w'))
 case atStart => exact ⟨(y101), (y104), (0), (by first | rfl | (simp; done) | (simp [*]; done)), H', ⟨Nat.le_refl _⟩, ⟨by (with_reducible repeat (first | apply Kd.R_alloc | apply Kd.R_drewN | apply Kd.R_drew)); exact HO103.out⟩, ⟨by (with_reducible repeat (first | apply Kd.R_alloc | apply Kd.R_drewN | apply Kd.R_drew)); exact HO106.out⟩, ⟨Sq.kl HB⟩⟩
 clear H'
 try clear c2
 try clear p2
 obtain ⟨x4_1, x5_1, x6_1, rfl, HA, HK1, HO_4, HO_5, HB⟩ := hrel
 cases gk with
 | zero => exact absurd HA.out (by simp [longcaseref06_Names.l0])
 | succ k1 =>
  have H := HA.out
  clear HA
  simp only [longcaseref06_Names.l0] at H
  by_cases c6 : x6_1 < (l0.length : Int)
  rotate_left
  ·
   rw [if_neg c6] at H
   have c6b0 : decide (x6_1 < (l0.length : Int)) = false := decide_eq_false c6
   clear c6
   simp only [Option.some.injEq, Prod.mk.injEq] at H
   obtain ⟨rfl, rfl⟩ := H
   go_wp2
   repeat (go_quiet (fail); try go_wp2)
   go_ret2
   exact ⟨_, _, by first | rfl | (simp [errW_none, errW_some] <;> rfl) | (simp [*, errW_none, errW_some] <;> rfl), by (with_reducible repeat (first | apply Kd.R_alloc | apply Kd.R_drewN | apply Kd.R_drew)); exact HO_4.out, by (with_reducible repeat (first | apply Kd.R_alloc | apply Kd.R_drewN | apply Kd.R_drew)); exact HO_5.out, by repeat (first | (with_reducible first | exact HB.out | apply below_alloc | apply pw_below_drewN | apply below_drew1) | exact HB.out)⟩
  rw [if_pos c6] at H
  have c6b0 : decide (x6_1 < (l0.length : Int)) = true := decide_eq_true c6
  clear c6
  have H' := Aside0.mk H
  clear H
  go_wp2
  repeat (go_quiet (fail); try go_wp2)
  go_loopg [7, 8] k1 (fun kq v7 v8 w' => ∃ (x7_2 : Int) (x8_2 : Int), v7 = .int .i64 x7_2 ∧ v8 = .int .i64 x8_2 ∧ Aside0 (longcaseref06_Names.l1 kq l0 x4_1 x5_1 x6_1 x7_2 x8_2 = some (r1, r2)) ∧ Aside0 (kq ≤ k1) ∧ Aside0 (Kd.R (Kd.int .u8) 5 w' w.heap.size (fun _ => True) u4 x4_1) ∧ Aside0 (Kd.R (Kd.int .i64) 3 w' w.heap.size (fun _ => True) u5 x5_1) ∧ Aside0 (Below w.heap.size w w'))
  case atStart => exact ⟨((-1)), (0), (by first | rfl | (simp; done) | (simp [*]; done)), (by first | rfl | (simp; done) | (simp [*]; done)), H', ⟨Nat.le_refl _⟩, ⟨by (with_reducible repeat (first | apply Kd.R_alloc | apply Kd.R_drewN | apply Kd.R_drew)); exact HO_4.out⟩, ⟨by (with_reducible repeat (first | apply Kd.R_alloc | apply Kd.R_drewN | apply Kd.R_drew)); exact HO_5.out⟩, ⟨Sq.kl HB⟩⟩
  clear H'
  try clear c2
  try clear p2
  try clear c6
  try clear c6b0
  try clear p2
  obtain ⟨x7_2, x8_2, rfl, rfl, HA, HK2, HO_4, HO_5, HB⟩ := hrel
  cases gk with
  | zero => exact absurd HA.out (by simp [longcaseref06_Names.l1])
  | succ k2 =>
   have H := HA.out
   clear HA
   simp only [longcaseref06_Names.l1] at H
   have HC7 := Aside0.mk H
   clear H
   go_upto_region 8 with (fail)
   repeat (go_quiet (fail); go_upto_region 8 with (fail))
   go_cut [23] (fun v23 wc => ∃ (kq : Nat) (x23_6 : Bool), v23 = .bool x23_6 ∧ Aside0 (longcaseref06_Names.j2 kq l0 x4_1 x5_1 x6_1 x7_2 x8_2 x23_6 = some (r1, r2)) ∧ Aside0 (kq ≤ k2) ∧ Aside0 (Kd.R (Kd.int .u8) 5 wc w.heap.size (fun _ => True) u4 x4_1) ∧ Aside0 (Kd.R (Kd.int .i64) 3 wc w.heap.size (fun _ => True) u5 x5_1) ∧ Aside0 (Below w.heap.size w wc))
   case first =>
    have H := HC7.out
    clear HC7
    by_cases c8 : x8_2 < x6_1
    rotate_left
    ·
     rw [if_neg c8] at H
     have c8b0 : decide (x8_2 < x6_1) = false := decide_eq_false c8
     clear c8
     (first | rw [c8b0] | rw [c8b1] | (simp only [i64_w, i32_w]; rw [c8b0]) | skip)
     have H' := Aside0.mk H
     clear H
     go_wp2
     repeat (go_quiet (fail); try go_wp2)
     go_meet
     case rel => exact ⟨_, (false), (by first | rfl | (simp; done) | (simp [*]; done)), H', ⟨by have := HK1.out; have := HK2.out; first | omega | exact Nat.le_refl _⟩, ⟨by (with_reducible repeat (first | apply Kd.R_alloc | apply Kd.R_drewN | apply Kd.R_drew)); exact HO_4.out⟩, ⟨by (with_reducible repeat (first | apply Kd.R_alloc | apply Kd.R_drewN | apply Kd.R_drew)); exact HO_5.out⟩, ⟨Sq.kl HB⟩⟩
    rw [if_pos c8] at H
    have c8b0 : decide (x8_2 < x6_1) = true := decide_eq_true c8
    clear c8
    (first | rw [c8b0] | rw [c8b1] | (simp only [i64_w, i32_w]; rw [c8b0]) | skip)
    have H' := Aside0.mk H
    clear H
    go_wp2
    repeat (go_quiet (fail); try go_wp2)
    go_meet
    case rel => exact ⟨_, (decide (x7_2 < 0)), (by first | rfl | (simp; done) | (simp [*]; done)), H', ⟨by have := HK1.out; have := HK2.out; first | omega | exact Nat.le_refl _⟩, ⟨by (with_reducible repeat (first | apply Kd.R_alloc | apply Kd.R_drewN | apply Kd.R_drew)); exact HO_4.out⟩, ⟨by (with_reducible repeat (first | apply Kd.R_alloc | apply Kd.R_drewN | apply Kd.R_drew)); exact HO_5.out⟩, ⟨Sq.kl HB⟩⟩
   clear HC7
   try clear c2
   try clear p2
   try clear c6
   try clear c6b0
   try clear c8
   try clear c8b0
   try clear p2
   obtain ⟨kq, x23_6, rfl, HA, HJ6, HO_4, HO_5, HB⟩ := hcut
   cases kq with
   | zero => exact absurd HA.out (by simp [longcaseref06_Names.j2])
   | succ kj6 =>
    have H := HA.out
    clear HA
    simp only [longcaseref06_Names.j2] at H
    by_cases c9 : x23_6 = true
    ·
     subst c9
     rw [if_pos rfl] at H
     by_cases c10 : 0 ≤ x8_2
     rotate_left
     ·
      rw [if_neg c10] at H
      exact absurd H (by simp)
     rw [if_pos c10] at H
     have c10b0 : decide (0 ≤ x8_2) = true := decide_eq_true c10
     clear c10
     by_cases c11 : x8_2 < (l0.length : Int)
     rotate_left
     ·
      rw [if_neg c11] at H
      exact absurd H (by simp)
     rw [if_pos c11] at H
     have c11b0 : decide (x8_2 < (l0.length : Int)) = true := decide_eq_true c11
     clear c11
     by_cases c12 : 0 ≤ x6_1
     rotate_left
     ·
      rw [if_neg c12] at H
      exact absurd H (by simp)
     rw [if_pos c12] at H
     have c12b0 : decide (0 ≤ x6_1) = true := decide_eq_true c12
     clear c12
     by_cases c13 : x6_1 < (l0.length : Int)
     rotate_left
     ·
      rw [if_neg c13] at H
      exact absurd H (by simp)
     rw [if_pos c13] at H
     have c13b0 : decide (x6_1 < (l0.length : Int)) = true := decide_eq_true c13
     clear c13
     by_cases c14 : ((rd_T56 l0 x8_2).f2).toList = ((rd_T56 l0 x6_1).f2).toList
     rotate_left
     ·
      rw [if_neg c14] at H
      have c14b0 : (((rd_T56 l0 x8_2).f2).toList == ((rd_T56 l0 x6_1).f2).toList) = false := beq_eq_false_iff_ne.mpr c14
      have c14b1 : (((rd_T56 l0 x8_2).f2).toList != ((rd_T56 l0 x6_1).f2).toList) = true := bne_iff_ne.mpr c14
      have H' := Aside0.mk H
      clear H
      have p107 : 0 ≤ (x8_2 : Int) := of_decide_eq_true (by first | (with_reducible assumption) | assumption)
      have q107 : x8_2 < (l0.length : Int) := of_decide_eq_true (by first | (with_reducible assumption) | assumption)
      obtain ⟨ad107, e107, hx107_0, hx107_1, hx107_2⟩ := at_T56 HR0.out x8_2 p107 q107
      cases e107
      replace hx107_0 := (HB.out.cell (World.block_lt_of_cell? w _ hx107_0)).trans hx107_0
      replace hx107_1 := (HB.out.cell (World.block_lt_of_cell? w _ hx107_1)).trans hx107_1
      replace hx107_2 := (HB.out.cell (World.block_lt_of_cell? w _ hx107_2)).trans hx107_2
      replace p107 := eq_true p107
      replace q107 := eq_true q107
      have p108 : 0 ≤ (x6_1 : Int) := of_decide_eq_true (by first | (with_reducible assumption) | assumption)
      have q108 : x6_1 < (l0.length : Int) := of_decide_eq_true (by first | (with_reducible assumption) | assumption)
      obtain ⟨ad108, e108, hx108_0, hx108_1, hx108_2⟩ := at_T56 HR0.out x6_1 p108 q108
      obtain rfl : ad107 = ad108 := (by injection e108)
      replace hx108_0 := (HB.out.cell (World.block_lt_of_cell? w _ hx108_0)).trans hx108_0
      replace hx108_1 := (HB.out.cell (World.block_lt_of_cell? w _ hx108_1)).trans hx108_1
      replace hx108_2 := (HB.out.cell (World.block_lt_of_cell? w _ hx108_2)).trans hx108_2
      replace p108 := eq_true p108
      replace q108 := eq_true q108
      go_wp2
      repeat (go_quiet (fail); try go_wp2)
      go_roundg kj6
      case measure => have := HK1.out; have := HK2.out; have := HJ6.out; omega
      case rel => exact ⟨(x7_2), (wrap64 (x8_2 + 1)), (by first | rfl | (simp; done) | (simp [*]; done)), (by first | rfl | (simp; done) | (simp [*]; done)), H', ⟨by have := HK1.out; have := HK2.out; have := HJ6.out; omega⟩, ⟨by (with_reducible repeat (first | apply Kd.R_alloc | apply Kd.R_drewN | apply Kd.R_drew)); exact HO_4.out⟩, ⟨by (with_reducible repeat (first | apply Kd.R_alloc | apply Kd.R_drewN | apply Kd.R_drew)); exact HO_5.out⟩, ⟨Sq.kl HB⟩⟩
     rw [if_pos c14] at H
     have c14b0 : (((rd_T56 l0 x8_2).f2).toList == ((rd_T56 l0 x6_1).f2).toList) = true := beq_iff_eq.mpr c14
     have c14b1 : (((rd_T56 l0 x8_2).f2).toList != ((rd_T56 l0 x6_1).f2).toList) = false := bne_eq_false_iff_eq.mpr c14
     clear c14
     by_cases c15 : x8_2 < (x5_1.length : Int)
     rotate_left
     ·
      rw [if_neg c15] at H
      exact absurd H (by simp)
     rw [if_pos c15] at H
     have c15b0 : decide (x8_2 < (x5_1.length : Int)) = true := decide_eq_true c15
     clear c15
     have H' := Aside0.mk H
     clear H
     have p107 : 0 ≤ (x8_2 : Int) := of_decide_eq_true (by first | (with_reducible assumption) | assumption)
     have q107 : x8_2 < (l0.length : Int) := of_decide_eq_true (by first | (with_reducible assumption) | assumption)
     obtain ⟨ad107, e107, hx107_0, hx107_1, hx107_2⟩ := at_T56 HR0.out x8_2 p107 q107
     cases e107
     replace hx107_0 := (HB.out.cell (World.block_lt_of_cell? w _ hx107_0)).trans hx107_0
     replace hx107_1 := (HB.out.cell (World.block_lt_of_cell? w _ hx107_1)).trans hx107_1
     replace hx107_2 := (HB.out.cell (World.block_lt_of_cell? w _ hx107_2)).trans hx107_2
     replace p107 := eq_true p107
     replace q107 := eq_true q107
     have p108 : 0 ≤ (x6_1 : Int) := of_decide_eq_true (by first | (with_reducible assumption) | assumption)
     have q108 : x6_1 < (l0.length : Int) := of_decide_eq_true (by first | (with_reducible assumption) | assumption)
     obtain ⟨ad108, e108, hx108_0, hx108_1, hx108_2⟩ := at_T56 HR0.out x6_1 p108 q108
     obtain rfl : ad107 = ad108 := (by injection e108)
     replace hx108_0 := (HB.out.cell (World.block_lt_of_cell? w _ hx108_0)).trans hx108_0
     replace hx108_1 := (HB.out.cell (World.block_lt_of_cell? w _ hx108_1)).trans hx108_1
     replace hx108_2 := (HB.out.cell (World.block_lt_of_cell? w _ hx108_2)).trans hx108_2
     replace p108 := eq_true p108
     replace q108 := eq_true q108
     obtain ⟨Ao16, co16, eo16⟩ := Kd.R_slice HO_5.out
     subst eo16
     have p109 : 0 ≤ (x8_2 : Int) := of_decide_eq_true (by first | (with_reducible assumption) | assumption)
     have q109 : x8_2 < (x5_1.length : Int) := of_decide_eq_true (by first | (with_reducible assumption) | assumption)
     obtain ⟨ad109, e109, hx109_0⟩ := Kd.at_int (Kd.R_reads' HO_5.out).2.2 x8_2 p109 q109
     cases e109
     replace p109 := eq_true p109
     replace q109 := eq_true q109
     go_wp2
     repeat (go_quiet (fail); try go_wp2)
     go_roundg kj6
     case measure => have := HK1.out; have := HK2.out; have := HJ6.out; omega
     case rel => exact ⟨(rd x5_1 x8_2), (wrap64 (x8_2 + 1)), (by first | rfl | (simp; done) | (simp [*]; done)), (by first | rfl | (simp; done) | (simp [*]; done)), H', ⟨by have := HK1.out; have := HK2.out; have := HJ6.out; omega⟩, ⟨by (with_reducible repeat (first | apply Kd.R_alloc | apply Kd.R_drewN | apply Kd.R_drew)); exact HO_4.out⟩, ⟨by (with_reducible repeat (first | apply Kd.R_alloc | apply Kd.R_drewN | apply Kd.R_drew)); exact HO_5.out⟩, ⟨Sq.kl HB⟩⟩
    replace c9 := Bool.eq_false_iff.mpr c9
    subst c9
    rw [if_neg (show ¬ (false = true) by decide)] at H
    by_cases c17 : x7_2 < 0
    rotate_left
    ·
     rw [if_neg c17] at H
     have c17b0 : decide (x7_2 < 0) = false := decide_eq_false c17
     clear c17
     by_cases c27 : x5_1.length < 17592186044416
     rotate_left
     ·
      rw [if_neg c27] at H
      exact absurd H (by simp)
     rw [if_pos c27] at H
     have LMc27 := Aside0.mk c27
     clear c27
     obtain ⟨y120, hy120⟩ : ∃ y_ : List Int, y_ = (x5_1 ++ [x7_2]) := ⟨_, rfl⟩
     replace H : (longcaseref06_Names.l0 kj6 l0 x4_1 y120 (wrap64 (x6_1 + 1))) = some (r1, r2) := by first | (rw [hy120]; with_reducible exact H) | (have H2_ := (Option.bind_some _ _).symm.trans H; rw [hy120]; with_reducible exact H2_) | (have H2_ := (Option.bind_some _ _).symm.trans H; with_reducible exact H2_) | with_reducible exact H | (rw [hy120]; exact H) | exact H
     have Ny120 := Aside0.mk hy120
     clear hy120
     have H' := Aside0.mk H
     clear H
     go_wp2_with (first | ((with_reducible refine gate_builtin (b := .append) (xs := #[.tmp 54, .tmp 56]) rfl ?_); at_builtin; refine Kd.R_append (Kd.int .i64) (w0 := w) w.heap.size rfl (.tmp 54) (.tmp 56) 62 3 (.int .i64 0) 8 rfl Try.underlying62 info3 rfl (by decide) (by omega) u5 x5_1 x7_2 [.int .i64 x7_2] (fun _ => True) (fun _ => False) rfl rfl ?aP (fun _ hk => hk.elim) ?aF ?aO ?aB ?aS ?aL ?_; (case aP => exact rfl); (case aB => exact (Sq.kl HB)); (case aF => exact (fun _ _ => trivial)); (case aO => exact (kr HO_5)); (case aS => exact (below_size (Sq.kl HB))); (case aL => have := LMc27.out; omega); intro v121 w28 ho hb hg hat; rw [← Ny120.out] at ho; replace HO_4 := Aside0.mk (Kd.R_over' (kr HO_4) (Kd.R_typed (kr HO_5)) (by decide) hg); replace HB := Aside0.mk (hb); have HO122 := Aside0.mk (ho); clear HO_5; clear ho hb hg hat))
     repeat (go_quiet (first | ((with_reducible refine gate_builtin (b := .append) (xs := #[.tmp 54, .tmp 56]) rfl ?_); at_builtin; refine Kd.R_append (Kd.int .i64) (w0 := w) w.heap.size rfl (.tmp 54) (.tmp 56) 62 3 (.int .i64 0) 8 rfl Try.underlying62 info3 rfl (by decide) (by omega) u5 x5_1 x7_2 [.int .i64 x7_2] (fun _ => True) (fun _ => False) rfl rfl ?aP (fun _ hk => hk.elim) ?aF ?aO ?aB ?aS ?aL ?_; (case aP => exact rfl); (case aB => exact (Sq.kl HB)); (case aF => exact (fun _ _ => trivial)); (case aO => exact (kr HO_5)); (case aS => exact (below_size (Sq.kl HB))); (case aL => have := LMc27.out; omega); intro v121 w28 ho hb hg hat; rw [← Ny120.out] at ho; replace HO_4 := Aside0.mk (Kd.R_over' (kr HO_4) (Kd.R_typed (kr HO_5)) (by decide) hg); replace HB := Aside0.mk (hb); have HO122 := Aside0.mk (ho); clear HO_5; clear ho hb hg hat)); try go_wp2_with (first | ((with_reducible refine gate_builtin (b := .append) (xs := #[.tmp 54, .tmp 56]) rfl ?_); at_builtin; refine Kd.R_append (Kd.int .i64) (w0 := w) w.heap.size rfl (.tmp 54) (.tmp 56) 62 3 (.int .i64 0) 8 rfl Try.underlying62 info3 rfl (by decide) (by omega) u5 x5_1 x7_2 [.int .i64 x7_2] (fun _ => True) (fun _ => False) rfl rfl ?aP (fun _ hk => hk.elim) ?aF ?aO ?aB ?aS ?aL ?_; (case aP => exact rfl); (case aB => exact (Sq.kl HB)); (case aF => exact (fun _ _ => trivial)); (case aO => exact (kr HO_5)); (case aS => exact (below_size (Sq.kl HB))); (case aL => have := LMc27.out; omega); intro v121 w28 ho hb hg hat; rw [← Ny120.out] at ho; replace HO_4 := Aside0.mk (Kd.R_over' (kr HO_4) (Kd.R_typed (kr HO_5)) (by decide) hg); replace HB := Aside0.mk (hb); have HO122 := Aside0.mk (ho); clear HO_5; clear ho hb hg hat)))
     go_roundg kj6
     case measure => have := HK1.out; have := HK2.out; have := HJ6.out; omega
     case rel => exact ⟨(x4_1), (y120), (wrap64 (x6_1 + 1)), (by first | rfl | (simp; done) | (simp [*]; done)), H', ⟨by have := HK1.out; have := HK2.out; have := HJ6.out; omega⟩, ⟨by (with_reducible repeat (first | apply Kd.R_alloc | apply Kd.R_drewN | apply Kd.R_drew)); exact HO_4.out⟩, ⟨by (with_reducible repeat (first | apply Kd.R_alloc | apply Kd.R_drewN | apply Kd.R_drew)); exact HO122.out⟩, ⟨Sq.kl HB⟩⟩
    rw [if_pos c17] at H
    have c17b0 : decide (x7_2 < 0) = true := decide_eq_true c17
    clear c17
    by_cases c18 : 0 ≤ x6_1
    rotate_left
    ·
     rw [if_neg c18] at H
     exact absurd H (by simp)
    rw [if_pos c18] at H
    have c18b0 : decide (0 ≤ x6_1) = true := decide_eq_true c18
    clear c18
    by_cases c19 : x6_1 < (l0.length : Int)
    rotate_left
    ·
     rw [if_neg c19] at H
     exact absurd H (by simp)
    rw [if_pos c19] at H
    have c19b0 : decide (x6_1 < (l0.length : Int)) = true := decide_eq_true c19
    clear c19
    by_cases c20 : x4_1.length + ((rd_T56 l0 x6_1).f2).size < 140737488355328
    rotate_left
    ·
     rw [if_neg c20] at H
     exact absurd H (by simp)
    rw [if_pos c20] at H
    have LMc20 := Aside0.mk c20
    clear c20
    obtain ⟨y111, hy111⟩ : ∃ y_ : List Int, y_ = (x4_1 ++ bytesOf ((rd_T56 l0 x6_1).f2)) := ⟨_, rfl⟩
    replace H : (if y111.length < 140737488355328 then (if x5_1.length < 17592186044416 then (longcaseref06_Names.l0 kj6 l0 (y111 ++ [0]) (x5_1 ++ [(x4_1.length : Int)]) (wrap64 (x6_1 + 1))) else (none)) else (none)) = some (r1, r2) := by first | (rw [hy111]; with_reducible exact H) | (have H2_ := (Option.bind_some _ _).symm.trans H; rw [hy111]; with_reducible exact H2_) | (have H2_ := (Option.bind_some _ _).symm.trans H; with_reducible exact H2_) | with_reducible exact H | (rw [hy111]; exact H) | exact H
    have Ny111 := Aside0.mk hy111
    clear hy111
    by_cases c21 : y111.length < 140737488355328
    rotate_left
    ·
     rw [if_neg c21] at H
     exact absurd H (by simp)
    rw [if_pos c21] at H
    have LMc21 := Aside0.mk c21
    clear c21
    obtain ⟨y114, hy114⟩ : ∃ y_ : List Int, y_ = (y111 ++ [0]) := ⟨_, rfl⟩
    replace H : (if x5_1.length < 17592186044416 then (longcaseref06_Names.l0 kj6 l0 y114 (x5_1 ++ [(x4_1.length : Int)]) (wrap64 (x6_1 + 1))) else (none)) = some (r1, r2) := by first | (rw [hy114]; with_reducible exact H) | (have H2_ := (Option.bind_some _ _).symm.trans H; rw [hy114]; with_reducible exact H2_) | (have H2_ := (Option.bind_some _ _).symm.trans H; with_reducible exact H2_) | with_reducible exact H | (rw [hy114]; exact H) | exact H
    have Ny114 := Aside0.mk hy114
    clear hy114
    by_cases c22 : x5_1.length < 17592186044416
    rotate_left
    ·
     rw [if_neg c22] at H
     exact absurd H (by simp)
    rw [if_pos c22] at H
    have LMc22 := Aside0.mk c22
    clear c22
    obtain ⟨y117, hy117⟩ : ∃ y_ : List Int, y_ = (x5_1 ++ [(x4_1.length : Int)]) := ⟨_, rfl⟩
    replace H : (longcaseref06_Names.l0 kj6 l0 y114 y117 (wrap64 (x6_1 + 1))) = some (r1, r2) := by first | (rw [hy117]; with_reducible exact H) | (have H2_ := (Option.bind_some _ _).symm.trans H; rw [hy117]; with_reducible exact H2_) | (have H2_ := (Option.bind_some _ _).symm.trans H; with_reducible exact H2_) | with_reducible exact H | (rw [hy117]; exact H) | exact H
    have Ny117 := Aside0.mk hy117
    clear hy117
    have H' := Aside0.mk H
    clear H
    obtain ⟨Ao23, co23, eo23⟩ := Kd.R_slice HO_4.out
    subst eo23
    have p110 : 0 ≤ (x6_1 : Int) := of_decide_eq_true (by first | (with_reducible assumption) | assumption)
    have q110 : x6_1 < (l0.length : Int) := of_decide_eq_true (by first | (with_reducible assumption) | assumption)
    obtain ⟨ad110, e110, hx110_0, hx110_1, hx110_2⟩ := at_T56 HR0.out x6_1 p110 q110
    cases e110
    replace hx110_0 := (HB.out.cell (World.block_lt_of_cell? w _ hx110_0)).trans hx110_0
    replace hx110_1 := (HB.out.cell (World.block_lt_of_cell? w _ hx110_1)).trans hx110_1
    replace hx110_2 := (HB.out.cell (World.block_lt_of_cell? w _ hx110_2)).trans hx110_2
    replace p110 := eq_true p110
    replace q110 := eq_true q110
    go_wp2_with (first | (at_builtin; refine print_append_str (w0 := w) w.heap.size rfl (.tmp 45) _ 33 9 5 rfl Try.underlying33 Try.underlying9 info5 (.slice Ao23 x4_1.length co23) x4_1 ((rd_T56 l0 x6_1).f2) rfl rfl ?aO ?aB ?aS ?aL ?_; (case aB => exact (Sq.kl HB)); (case aO => exact (Kd.own_of_R (kr HO_4))); (case aS => exact (below_size (Sq.kl HB))); (case aL => have := LMc20.out; omega); intro v112 w24 ho0 hb hg; have ho := Kd.R_of_own (h1 := fun _ => rfl) (ok := fun _ => True) ho0 (fun _ _ => trivial); clear ho0; have hat := True.intro; rw [← Ny111.out] at ho; change Kd.R (Kd.int .u8) 5 w24 w.heap.size (fun _ => True) v112 y111 at ho; replace HO_5 := Aside0.mk (Kd.R_over' (kr HO_5) (Kd.R_typed (kr HO_4)) (by decide) hg); replace HB := Aside0.mk (hb); have HO113 := Aside0.mk (ho); clear HO_4; clear ho hb hg hat) | ((with_reducible refine gate_builtin (b := .append) (xs := #[.tmp 51, .tmp 52]) rfl ?_); at_builtin; refine Kd.R_append (Kd.int .u8) (w0 := w) w.heap.size rfl (.tmp 51) (.tmp 52) 33 5 (.int .u8 0) 1 rfl Try.underlying33 info5 rfl (by decide) (by omega) v112 y111 0 [.int .u8 0] (fun _ => True) (fun _ => False) rfl rfl ?aP (fun _ hk => hk.elim) ?aF ?aO ?aB ?aS ?aL ?_; (case aP => exact rfl); (case aB => exact (Sq.kl HB)); (case aF => exact (fun _ _ => trivial)); (case aO => exact (kr HO113)); (case aS => exact (below_size (Sq.kl HB))); (case aL => have := LMc21.out; omega); intro v115 w25 ho hb hg hat; rw [← Ny114.out] at ho; replace HO_5 := Aside0.mk (Kd.R_over' (kr HO_5) (Kd.R_typed (kr HO113)) (by decide) hg); replace HB := Aside0.mk (hb); have HO116 := Aside0.mk (ho); clear HO113; clear ho hb hg hat) | ((with_reducible refine gate_builtin (b := .append) (xs := #[.tmp 54, .tmp 56]) rfl ?_); at_builtin; refine Kd.R_append (Kd.int .i64) (w0 := w) w.heap.size rfl (.tmp 54) (.tmp 56) 62 3 (.int .i64 0) 8 rfl Try.underlying62 info3 rfl (by decide) (by omega) u5 x5_1 (x4_1.length : Int) [.int .i64 (x4_1.length : Int)] (fun _ => True) (fun _ => False) rfl rfl ?aP (fun _ hk => hk.elim) ?aF ?aO ?aB ?aS ?aL ?_; (case aP => exact rfl); (case aB => exact (Sq.kl HB)); (case aF => exact (fun _ _ => trivial)); (case aO => exact (kr HO_5)); (case aS => exact (below_size (Sq.kl HB))); (case aL => have := LMc22.out; omega); intro v118 w26 ho hb hg hat; rw [← Ny117.out] at ho; replace HO116 := Aside0.mk (Kd.R_over' (kr HO116) (Kd.R_typed (kr HO_5)) (by decide) hg); replace HB := Aside0.mk (hb); have HO119 := Aside0.mk (ho); clear HO_5; clear ho hb hg hat))
    repeat (go_quiet (first | (at_builtin; refine print_append_str (w0 := w) w.heap.size rfl (.tmp 45) _ 33 9 5 rfl Try.underlying33 Try.underlying9 info5 (.slice Ao23 x4_1.length co23) x4_1 ((rd_T56 l0 x6_1).f2) rfl rfl ?aO ?aB ?aS ?aL ?_; (case aB => exact (Sq.kl HB)); (case aO => exact (Kd.own_of_R (kr HO_4))); (case aS => exact (below_size (Sq.kl HB))); (case aL => have := LMc20.out; omega); intro v112 w24 ho0 hb hg; have ho := Kd.R_of_own (h1 := fun _ => rfl) (ok := fun _ => True) ho0 (fun _ _ => trivial); clear ho0; have hat := True.intro; rw [← Ny111.out] at ho; change Kd.R (Kd.int .u8) 5 w24 w.heap.size (fun _ => True) v112 y111 at ho; replace HO_5 := Aside0.mk (Kd.R_over' (kr HO_5) (Kd.R_typed (kr HO_4)) (by decide) hg); replace HB := Aside0.mk (hb); have HO113 := Aside0.mk (ho); clear HO_4; clear ho hb hg hat) | ((with_reducible refine gate_builtin (b := .append) (xs := #[.tmp 51, .tmp 52]) rfl ?_); at_builtin; refine Kd.R_append (Kd.int .u8) (w0 := w) w.heap.size rfl (.tmp 51) (.tmp 52) 33 5 (.int .u8 0) 1 rfl Try.underlying33 info5 rfl (by decide) (by omega) v112 y111 0 [.int .u8 0] (fun _ => True) (fun _ => False) rfl rfl ?aP (fun _ hk => hk.elim) ?aF ?aO ?aB ?aS ?aL ?_; (case aP => exact rfl); (case aB => exact (Sq.kl HB)); (case aF => exact (fun _ _ => trivial)); (case aO => exact (kr HO113)); (case aS => exact (below_size (Sq.kl HB))); (case aL => have := LMc21.out; omega); intro v115 w25 ho hb hg hat; rw [← Ny114.out] at ho; replace HO_5 := Aside0.mk (Kd.R_over' (kr HO_5) (Kd.R_typed (kr HO113)) (by decide) hg); replace HB := Aside0.mk (hb); have HO116 := Aside0.mk (ho); clear HO113; clear ho hb hg hat) | ((with_reducible refine gate_builtin (b := .append) (xs := #[.tmp 54, .tmp 56]) rfl ?_); at_builtin; refine Kd.R_append (Kd.int .i64) (w0 := w) w.heap.size rfl (.tmp 54) (.tmp 56) 62 3 (.int .i64 0) 8 rfl Try.underlying62 info3 rfl (by decide) (by omega) u5 x5_1 (x4_1.length : Int) [.int .i64 (x4_1.length : Int)] (fun _ => True) (fun _ => False) rfl rfl ?aP (fun _ hk => hk.elim) ?aF ?aO ?aB ?aS ?aL ?_; (case aP => exact rfl); (case aB => exact (Sq.kl HB)); (case aF => exact (fun _ _ => trivial)); (case aO => exact (kr HO_5)); (case aS => exact (below_size (Sq.kl HB))); (case aL => have := LMc22.out; omega); intro v118 w26 ho hb hg hat; rw [← Ny117.out] at ho; replace HO116 := Aside0.mk (Kd.R_over' (kr HO116) (Kd.R_typed (kr HO_5)) (by decide) hg); replace HB := Aside0.mk (hb); have HO119 := Aside0.mk (ho); clear HO_5; clear ho hb hg hat)); try go_wp2_with (first | (at_builtin; refine print_append_str (w0 := w) w.heap.size rfl (.tmp 45) _ 33 9 5 rfl Try.underlying33 Try.underlying9 info5 (.slice Ao23 x4_1.length co23) x4_1 ((rd_T56 l0 x6_1).f2) rfl rfl ?aO ?aB ?aS ?aL ?_; (case aB => exact (Sq.kl HB)); (case aO => exact (Kd.own_of_R (kr HO_4))); (case aS => exact (below_size (Sq.kl HB))); (case aL => have := LMc20.out; omega); intro v112 w24 ho0 hb hg; have ho := Kd.R_of_own (h1 := fun _ => rfl) (ok := fun _ => True) ho0 (fun _ _ => trivial); clear ho0; have hat := True.intro; rw [← Ny111.out] at ho; change Kd.R (Kd.int .u8) 5 w24 w.heap.size (fun _ => True) v112 y111 at ho; replace HO_5 := Aside0.mk (Kd.R_over' (kr HO_5) (Kd.R_typed (kr HO_4)) (by decide) hg); replace HB := Aside0.mk (hb); have HO113 := Aside0.mk (ho); clear HO_4; clear ho hb hg hat) | ((with_reducible refine gate_builtin (b := .append) (xs := #[.tmp 51, .tmp 52]) rfl ?_); at_builtin; refine Kd.R_append (Kd.int .u8) (w0 := w) w.heap.size rfl (.tmp 51) (.tmp 52) 33 5 (.int .u8 0) 1 rfl Try.underlying33 info5 rfl (by decide) (by omega) v112 y111 0 [.int .u8 0] (fun _ => True) (fun _ => False) rfl rfl ?aP (fun _ hk => hk.elim) ?aF ?aO ?aB ?aS ?aL ?_; (case aP => exact rfl); (case aB => exact (Sq.kl HB)); (case aF => exact (fun _ _ => trivial)); (case aO => exact (kr HO113)); (case aS => exact (below_size (Sq.kl HB))); (case aL => have := LMc21.out; omega); intro v115 w25 ho hb hg hat; rw [← Ny114.out] at ho; replace HO_5 := Aside0.mk (Kd.R_over' (kr HO_5) (Kd.R_typed (kr HO113)) (by decide) hg); replace HB := Aside0.mk (hb); have HO116 := Aside0.mk (ho); clear HO113; clear ho hb hg hat) | ((with_reducible refine gate_builtin (b := .append) (xs := #[.tmp 54, .tmp 56]) rfl ?_); at_builtin; refine Kd.R_append (Kd.int .i64) (w0 := w) w.heap.size rfl (.tmp 54) (.tmp 56) 62 3 (.int .i64 0) 8 rfl Try.underlying62 info3 rfl (by decide) (by omega) u5 x5_1 (x4_1.length : Int) [.int .i64 (x4_1.length : Int)] (fun _ => True) (fun _ => False) rfl rfl ?aP (fun _ hk => hk.elim) ?aF ?aO ?aB ?aS ?aL ?_; (case aP => exact rfl); (case aB => exact (Sq.kl HB)); (case aF => exact (fun _ _ => trivial)); (case aO => exact (kr HO_5)); (case aS => exact (below_size (Sq.kl HB))); (case aL => have := LMc22.out; omega); intro v118 w26 ho hb hg hat; rw [← Ny117.out] at ho; replace HO116 := Aside0.mk (Kd.R_over' (kr HO116) (Kd.R_typed (kr HO_5)) (by decide) hg); replace HB := Aside0.mk (hb); have HO119 := Aside0.mk (ho); clear HO_5; clear ho hb hg hat)))
    go_roundg kj6
    case measure => have := HK1.out; have := HK2.out; have := HJ6.out; omega
    case rel => exact ⟨(y114), (y117), (wrap64 (x6_1 + 1)), (by first | rfl | (simp; done) | (simp [*]; done)), H', ⟨by have := HK1.out; have := HK2.out; have := HJ6.out; omega⟩, ⟨by (with_reducible repeat (first | apply Kd.R_alloc | apply Kd.R_drewN | apply Kd.R_drew)); exact HO116.out⟩, ⟨by (with_reducible repeat (first | apply Kd.R_alloc | apply Kd.R_drewN | apply Kd.R_drew)); exact HO119.out⟩, ⟨Sq.kl HB⟩⟩
end Go.Proofs.Ythobnoknbdljgaa.PR
end
section
namespace Go.Proofs.Ythobnoknbdljgaa
open Go.RowKit Hand PB0 Go.Proofs.YthobnoknbdljgaaW.PrintWords Oct
structure NmInv (st : NmS) (l : List ByteArray) : Prop where
 place : ∀ s p, st.2.1 s = some p → ∃ pre post : List UInt8, st.1 = pre ++ s.data.toList ++ 0 :: post ∧ pre.length = p
 at_ : ∀ i (h : i < l.length), ∃ p, st.2.1 l[i] = some p ∧ st.2.2[i]? = some ((p : Int) % 256)
 len : st.2.2.length = l.length
theorem nm_inv (l : List ByteArray) : NmInv (nmSt l) l := by
 induction l using rev_ind with
 | h0 => exact ⟨fun s p h => (by cases h), fun i h => absurd h (Nat.not_lt_zero i), rfl⟩
 | hs l s ih =>
  rw [nmSt_snoc]
  have fin : ∀ (st' : NmS) (p : Nat), st'.2.1 s = some p → (∀ t q, (nmSt l).2.1 t = some q → st'.2.1 t = some q) → st'.2.2 = (nmSt l).2.2 ++ [((p : Nat) : Int) % 256] →
    (∀ s p, st'.2.1 s = some p → ∃ pre post : List UInt8, st'.1 = pre ++ s.data.toList ++ 0 :: post ∧ pre.length = p) → NmInv st' (l ++ [s]) := by
   intro st' p h1 h2 h3 h4
   refine ⟨h4, ?_, by rw [h3, List.length_append, List.length_append, ih.len]; rfl⟩
   intro i hi
   rw [List.length_append] at hi
   by_cases hlt : i < l.length
   ·
    obtain ⟨q, hq, hat⟩ := ih.at_ i hlt
    refine ⟨q, ?_, ?_⟩
    ·
     rw [List.getElem_append_left hlt]
     exact h2 _ _ hq
    ·
     rw [h3, List.getElem?_append_left (by rw [ih.len]; exact hlt)]
     exact hat
   ·
    have e : i = l.length := by simp at hi; omega
    subst e
    refine ⟨p, ?_, ?_⟩
    ·
     rw [List.getElem_append_right (Nat.le_refl _)]
     simpa using h1
    ·
     rw [h3, List.getElem?_append_right (by rw [ih.len]; exact Nat.le_refl _), ih.len]
     simp
  unfold nmStep
  split
  ·
   rename_i p hp
   exact fin _ p hp (fun t q h => h) rfl ih.place
  ·
   rename_i hn
   refine fin _ (nmSt l).1.length (by dsimp only; rw [if_pos rfl]) ?_ rfl ?_
   ·
    intro t q h
    dsimp only
    rw [if_neg (fun e => by rw [e, hn] at h; cases h)]
    exact h
   ·
    intro t q h
    dsimp only at h ⊢
    by_cases e : t = s
    ·
     subst e
     rw [if_pos rfl] at h
     injection h with h
     subst h
     exact ⟨(nmSt l).1, [], by simp, rfl⟩
    ·
     rw [if_neg e] at h
     obtain ⟨pre, post, h1, h2⟩ := ih.place t q h
     exact ⟨pre, post ++ s.data.toList ++ [0], by rw [h1]; simp, h2⟩
theorem idx_none (l : List UInt8) (h : Lib.indexByte l 0 < 0) : ∀ x ∈ l, x ≠ 0 := by
 induction l with
 | nil => intro x hx; cases hx
 | cons b l ih =>
  intro x hx
  rw [Lib.indexByte] at h
  by_cases hb : (b == 0) = true
  ·
   rw [if_pos hb] at h
   exact absurd h (by decide)
  ·
   rw [if_neg hb] at h
   by_cases hc : (Lib.indexByte l 0 == -1) = true
   ·
    rcases List.mem_cons.1 hx with rfl | hx
    ·
     intro e; rw [e] at hb; exact hb rfl
    ·
     exact ih (by rw [eq_of_beq hc]; decide) x hx
   ·
    rw [if_neg hc] at h
    rcases List.mem_cons.1 hx with rfl | hx
    ·
     intro e; rw [e] at hb; exact hb rfl
    ·
     exact ih (by omega) x hx
def fit (m : Nat) (n : Int) : Prop := -(256 ^ m) ≤ 2 * n ∧ 2 * n < 256 ^ m
theorem fit4 {n : Int} : fit 4 n ↔ -2147483648 ≤ n ∧ n ≤ 2147483647 := by unfold fit; rw [q4]; omega
theorem numU_fit (m : Nat) (hm : m = 4 ∨ m = 8) (bs : List Int) (hb : Bytes bs) : fit m (numU m bs) := by
 unfold numU
 have hbt := hb.take m
 have hlt : (bs.take m).length ≤ m := by rw [List.length_take]; omega
 rw [uval_bval _ hbt (by omega)]
 have h := bval_bd _ hbt
 have hp := pow_mono' hlt
 rw [sgn_val m (by omega) (by omega) _ h.1 (by omega)]
 unfold fit
 split <;> omega
end Go.Proofs.Ythobnoknbdljgaa
end
section
namespace Go.Proofs.Ythobnoknbdljgaa
open Go.RowKit Hand PB0 Go.Proofs.YthobnoknbdljgaaW.PrintWords
theorem nm_stay (l : List ByteArray) (a s : ByteArray) {p : Nat} (h : (nmSt l).2.1 s = some p) : (nmSt (l ++ [a])).2.1 s = some p := by
 rw [nmSt_snoc]
 unfold nmStep
 split
 ·
  exact h
 ·
  rename_i hn
  show (if s = a then some (nmSt l).1.length else (nmSt l).2.1 s) = some p
  by_cases e : s = a
  ·
   subst e
   rw [hn] at h
   cases h
  ·
   rw [if_neg e, h]
theorem nm_none (l : List ByteArray) : ∀ s, (nmSt l).2.1 s = none ↔ s ∉ l := by
 induction l using rev_ind with
 | h0 => exact fun s => ⟨fun _ h => (by cases h), fun _ => rfl⟩
 | hs l a ih =>
  intro s
  rw [nmSt_snoc]
  unfold nmStep
  rw [List.mem_append, List.mem_singleton, not_or, ← ih s]
  split
  ·
   rename_i p hp
   constructor
   ·
    exact fun h => ⟨h, fun e => by rw [← e] at hp; rw [h] at hp; cases hp⟩
   ·
    exact fun h => h.1
  ·
   rename_i hn
   show (if s = a then some (nmSt l).1.length else (nmSt l).2.1 s) = none ↔ _
   by_cases e : s = a
   ·
    rw [if_pos e]
    exact ⟨fun h => (by cases h), fun h => absurd e h.2⟩
   ·
    rw [if_neg e]
    exact ⟨fun h => ⟨h, e⟩, fun h => h.1⟩
instance memDec (s : ByteArray) (l : List ByteArray) : Decidable (s ∈ l) := decidable_of_iff (∃ t ∈ l, t = s) ⟨fun ⟨_, h, e⟩ => e ▸ h, fun h => ⟨s, h, rfl⟩⟩
theorem ba_toList_inj {x y : ByteArray} (h : x.toList = y.toList) : x = y := by
 rw [ByteArray.toList_eq, ByteArray.toList_eq] at h
 obtain ⟨⟨x⟩⟩ := x
 obtain ⟨⟨y⟩⟩ := y
 exact congrArg (fun l : List UInt8 => (⟨⟨l⟩⟩ : ByteArray)) h
def place (l : List ByteArray) (s : ByteArray) : Int := (((nmSt l).2.1 s).getD 0 : Nat)
theorem place_stay (l : List ByteArray) (a s : ByteArray) (h : s ∈ l) : place (l ++ [a]) s = place l s := by
 unfold place
 cases e : (nmSt l).2.1 s with
 | none => exact absurd h ((nm_none l s).1 e)
 | some p => rw [nm_stay l a s e]
def nbs (l : List ByteArray) : List Int := (nmSt l).1.map fun b => ((b.toNat : Nat) : Int)
theorem nbs_len (l : List ByteArray) : (nbs l).length = (nmSt l).1.length := List.length_map _
theorem place_nn (l : List ByteArray) (s : ByteArray) : 0 ≤ place l s := by unfold place; omega
theorem step_old (l : List ByteArray) (s : ByteArray) (h : s ∈ l) : nbs (l ++ [s]) = nbs l ∧ (l ++ [s]).map (place (l ++ [s])) = l.map (place l) ++ [place l s] := by
 have h2 : nbs (l ++ [s]) = nbs l := by
  unfold nbs
  rw [nmSt_snoc]
  unfold nmStep
  split
  ·
   rfl
  ·
   rename_i hn
   exact absurd h ((nm_none l s).1 hn)
 refine ⟨h2, ?_⟩
 rw [List.map_append, List.map_singleton, place_stay l s s h]
 congr 1
 exact List.map_congr_left fun x hx => place_stay l s x hx
theorem step_new (l : List ByteArray) (s : ByteArray) (h : s ∉ l) : nbs (l ++ [s]) = nbs l ++ bytesOf s ++ [0] ∧ (l ++ [s]).map (place (l ++ [s])) = l.map (place l) ++ [((nbs l).length : Int)] := by
 have hn := (nm_none l s).2 h
 have e : nmSt (l ++ [s]) = ((nmSt l).1 ++ s.data.toList ++ [0], fun t => if t = s then some (nmSt l).1.length else (nmSt l).2.1 t, (nmSt l).2.2 ++ [(((nmSt l).1.length : Nat) : Int) % 256]) := by
  rw [nmSt_snoc]
  unfold nmStep
  split
  ·
   rename_i p hp
   rw [hn] at hp
   cases hp
  ·
   rfl
 constructor
 ·
  unfold nbs
  rw [e]
  simp [bytesOf]
 ·
  rw [List.map_append, List.map_singleton]
  congr 1
  ·
   exact List.map_congr_left fun x hx => place_stay l s x hx
  ·
   unfold place
   rw [e]
   show [(((if s = s then some (nmSt l).1.length else (nmSt l).2.1 s).getD 0 : Nat) : Int)] = _
   rw [if_pos rfl, nbs_len]
   rfl
open PR
section
variable {K : List S56} {R : List Int × List Int}
theorem names_take (i : Nat) (hi : i < K.length) : names (K.take (i + 1)) = names (K.take i) ++ [K[i].f2] := by
 unfold names
 rw [List.take_succ_eq_append_getElem hi, List.map_append]
 rfl
theorem rdK (i : Nat) (hi : i < K.length) : rd_T56 K (i : Int) = K[i] := by
 unfold rd_T56
 simp [hi]
theorem names_end (hK : K.length ≤ 1000000) (_hs : nmSum (names K) ≤ 1000000) {i : Nat} (hi : i < K.length) (hb : (nbs (names (K.take i))).length + K[i].f2.size ≤ 2000000)
  (h : ∃ m, longcaseref06_Names.l0 m K (nbs (names (K.take (i + 1)))) ((names (K.take (i + 1))).map (place (names (K.take (i + 1))))) ((i + 1 : Nat) : Int) = some R) (j : Int) (x7 : Int)
  (hx : x7 = if K[i].f2 ∈ names (K.take i) then place (names (K.take i)) K[i].f2 else -1) :
  ∃ m, longcaseref06_Names.j2 m K (nbs (names (K.take i))) ((names (K.take i)).map (place (names (K.take i)))) i x7 j false = some R := by
 obtain ⟨m, h⟩ := h
 rw [names_take i hi] at h
 have hl : ((names (K.take i)).map (place (names (K.take i)))).length = i := by simp [names]; omega
 refine ⟨m + 1, ?_⟩
 rw [longcaseref06_Names.j2, if_neg (by decide)]
 have e : wrap64 ((i : Int) + 1) = ((i + 1 : Nat) : Int) := by rw [Hand.w64 (by omega) (by omega)]; omega
 by_cases hm : K[i].f2 ∈ names (K.take i)
 ·
  rw [if_pos hm] at hx
  have hn := place_nn (names (K.take i)) K[i].f2
  rw [if_neg (by omega), if_pos (by rw [hl]; omega), e, hx]
  obtain ⟨s1, s2⟩ := step_old _ _ hm
  rw [s1, s2] at h
  exact h
 ·
  rw [if_neg hm] at hx
  obtain ⟨s1, s2⟩ := step_new _ _ hm
  rw [s1, s2] at h
  rw [if_pos (by omega), if_pos (by omega), if_pos (by omega), rdK i hi, if_pos (by omega), Option.bind_some, if_pos (by rw [List.length_append, bytesOf_length]; omega), if_pos (by rw [hl]; omega), e]
  exact h
theorem names_in (hK : K.length ≤ 1000000) (hs : nmSum (names K) ≤ 1000000) {i : Nat} (hi : i < K.length) (hb : (nbs (names (K.take i))).length + K[i].f2.size ≤ 2000000)
  (h : ∃ m, longcaseref06_Names.l0 m K (nbs (names (K.take (i + 1)))) ((names (K.take (i + 1))).map (place (names (K.take (i + 1))))) ((i + 1 : Nat) : Int) = some R) (d : Nat) :
  ∀ j, j + d = i → ∀ x7 : Int, x7 = (if K[i].f2 ∈ (names (K.take i)).take j then place (names (K.take i)) K[i].f2 else -1) →
   ∃ m, longcaseref06_Names.l1 m K (nbs (names (K.take i))) ((names (K.take i)).map (place (names (K.take i)))) i x7 j = some R := by
 have hPl : (names (K.take i)).length = i := by simp [names]; omega
 induction d with
 | zero =>
  intro j hj x7 hx
  obtain rfl : j = i := by omega
  rw [List.take_of_length_le (by omega)] at hx
  obtain ⟨m, hm⟩ := names_end hK hs hi hb h (j : Int) x7 hx
  exact ⟨m + 1, by rw [longcaseref06_Names.l1, if_neg (by omega)]; exact hm⟩
 | succ d ih =>
  intro j hj x7 hx
  have hji : j < i := by omega
  have hget : (names (K.take i))[j]'(by omega) = K[j].f2 := by simp [names]
  have htk : (names (K.take i)).take (j + 1) = (names (K.take i)).take j ++ [K[j].f2] := by rw [List.take_succ_eq_append_getElem (by omega), hget]
  by_cases hm : K[i].f2 ∈ (names (K.take i)).take j
  ·
   rw [if_pos hm] at hx
   have hn := place_nn (names (K.take i)) K[i].f2
   obtain ⟨m, hm2⟩ := names_end hK hs hi hb h (j : Int) x7 (by rw [if_pos (List.mem_of_mem_take hm)]; exact hx)
   exact ⟨m + 1, by rw [longcaseref06_Names.l1, if_pos (by omega), decide_eq_false (by omega)]; exact hm2⟩
  rw [if_neg hm] at hx
  have e : wrap64 ((j : Int) + 1) = ((j + 1 : Nat) : Int) := by rw [Hand.w64 (by omega) (by omega)]; omega
  have hl : ((names (K.take i)).map (place (names (K.take i)))).length = i := by rw [List.length_map, hPl]
  by_cases he : K[j].f2 = K[i].f2
  rotate_left
  ·
   obtain ⟨m, hm2⟩ := ih (j + 1) (by omega) x7 (by rw [htk, if_neg (by rw [List.mem_append, List.mem_singleton]; exact fun q => q.elim hm (fun q => he q.symm))]; exact hx)
   refine ⟨m + 2, ?_⟩
   have hne : ¬ (K[j].f2.toList = K[i].f2.toList) := fun q => he (by
    have := ba_toList_inj q
    exact this)
   rw [longcaseref06_Names.l1, if_pos (by omega), decide_eq_true (show x7 < 0 by omega), longcaseref06_Names.j2, if_pos rfl, if_pos (by omega), if_pos (by omega), if_pos (by omega), if_pos (by omega), rdK i hi, rdK j (by omega), if_neg hne, e]
   exact hm2
  obtain ⟨m, hm2⟩ := ih (j + 1) (by omega) (place (names (K.take i)) K[i].f2) (by rw [htk, if_pos (by rw [List.mem_append, List.mem_singleton]; exact .inr he.symm)])
  refine ⟨m + 2, ?_⟩
  rw [longcaseref06_Names.l1, if_pos (by omega), decide_eq_true (show x7 < 0 by omega), longcaseref06_Names.j2, if_pos rfl, if_pos (by omega), if_pos (by omega), if_pos (by omega), if_pos (by omega), rdK i hi, rdK j (by omega), if_pos (by rw [he]), if_pos (by rw [hl]; omega), e]
  have hrd : rd ((names (K.take i)).map (place (names (K.take i)))) (j : Int) = place (names (K.take i)) K[i].f2 := by
   unfold rd
   rw [Int.toNat_natCast, List.getD_eq_getElem?_getD, List.getElem?_map, List.getElem?_eq_getElem (by omega), hget, he]
   rfl
  rw [hrd]
  exact hm2
theorem names_f (hK : K.length ≤ 1000000) (hs : nmSum (names K) ≤ 1000000) : ∃ k, longcaseref06_Names.f k K = some (nbs (names K), (names K).map (place (names K))) := by
 have key : ∀ d i, i + d = K.length → ∃ m, longcaseref06_Names.l0 m K (nbs (names (K.take i))) ((names (K.take i)).map (place (names (K.take i)))) (i : Int) = some (nbs (names K), (names K).map (place (names K))) := by
  intro d
  induction d with
  | zero =>
   intro i hi
   exact ⟨1, by rw [longcaseref06_Names.l0, if_neg (by omega), List.take_of_length_le (by omega)]⟩
  | succ d ih =>
   intro i hi
   have hlt : i < K.length := by omega
   have hsub : nmSum (names (K.take (i + 1))) ≤ nmSum (names K) := by
    have e : names K = names (K.take (i + 1)) ++ names (K.drop (i + 1)) := by unfold names; rw [← List.map_append, List.take_append_drop]
    rw [e]
    unfold nmSum
    rw [List.map_append, List.sum_append]
    omega
   rw [names_take i hlt, nmSum_snoc] at hsub
   have hb := (nmSt_len (names (K.take i))).1
   obtain ⟨m, hm⟩ := names_in hK hs hlt (by rw [nbs_len]; omega) (ih (i + 1) (by omega)) i 0 (by omega) (-1) (by rw [List.take_zero, if_neg (by simp)])
   exact ⟨m + 1, by rw [longcaseref06_Names.l0, if_pos (by omega)]; exact hm⟩
 obtain ⟨m, hm⟩ := key K.length 0 (by omega)
 exact ⟨m, hm⟩
end
end Go.Proofs.Ythobnoknbdljgaa
end
section
namespace Go.Proofs.Ythobnoknbdljgaa.Hand
open Go.RowKit Go.Proofs.YthobnoknbdljgaaW.PrintWords Go.Proofs.YthobnoknbdljgaaW.PrintLast Go.Proofs.YthobnoknbdljgaaW.PrintMore PB0
set_option linter.unusedVariables false
set_option linter.unusedSimpArgs false
section
variable {a1 a2 : Int} {K : List S56} {J : List S54} {L : List S67} {S U : List Bool}
theorem rb_size (h : ¬ (a1 = 4 ∨ a1 = 8)) : rightB a1 a2 K J L S U = false := by
 unfold rightB
 rw [show (decide (a1 = 4) || decide (a1 = 8)) = false by simpa using h]
 simp
theorem rb_cnt (h : ¬ (1 ≤ K.length ∧ K.length ≤ 256 ∧ (S.length = 0 ∨ S.length = K.length) ∧ (U.length = 0 ∨ U.length = K.length))) : rightB a1 a2 K J L S U = false := by
 unfold rightB kindedB cntB
 rw [decide_eq_false h]
 simp
theorem rb_jl (h : 5000 < J.length) : rightB a1 a2 K J L S U = false := by
 unfold rightB jumpedB
 rw [show decide ((J.length : Int) ≤ 5000) = false from decide_eq_false (by omega)]
 simp
theorem rb_ll (h : 5000 < L.length) : rightB a1 a2 K J L S U = false := by
 unfold rightB leapedB
 rw [show decide ((L.length : Int) ≤ 5000) = false from decide_eq_false (by omega)]
 simp
theorem rb_kind {k : Nat} (hk : k < K.length) (h : kokB K S U k = false) : rightB a1 a2 K J L S U = false := by
 unfold rightB kindedB
 rw [all_no _ hk h]
 simp
theorem rb_names (h : 256 < (nmSt (names K)).1.length) : rightB a1 a2 K J L S U = false := by
 unfold rightB kindedB
 rw [show decide ((nmSt (names K)).1.length ≤ 256) = false from decide_eq_false (by omega)]
 simp
theorem rb_true (h0 : a1 = 4 ∨ a1 = 8) (h1 : 1 ≤ K.length) (h2 : K.length ≤ 256) (h3 : S.length = 0 ∨ S.length = K.length) (h4 : U.length = 0 ∨ U.length = K.length) (hk : ∀ j, j < K.length → kokB K S U j = true) (hn : (nmSt (names K)).1.length ≤ 256)
  (hj : ∀ j, j < J.length → jokB (K.length : Int) a1 J j = true) (hjl : J.length ≤ 5000) (hl : ∀ j, j < L.length → lokB a2 a1 L j = true) (hll : L.length ≤ 5000) : rightB a1 a2 K J L S U = true := by
 unfold rightB kindedB cntB jumpedB leapedB
 have e1 : (decide (a1 = 4) || decide (a1 = 8)) = true := by simpa using h0
 have e2 : (List.range K.length).all (kokB K S U) = true := List.all_eq_true.2 fun j hj => hk j (List.mem_range.1 hj)
 have e3 : (List.range J.length).all (jokB (K.length : Int) a1 J) = true := List.all_eq_true.2 fun j h => hj j (List.mem_range.1 h)
 have e4 : (List.range L.length).all (lokB a2 a1 L) = true := List.all_eq_true.2 fun j h => hl j (List.mem_range.1 h)
 rw [e1, e2, e3, e4, decide_eq_true (show 1 ≤ K.length ∧ K.length ≤ 256 ∧ (S.length = 0 ∨ S.length = K.length) ∧ (U.length = 0 ∨ U.length = K.length) from ⟨h1, h2, h3, h4⟩), decide_eq_true hn, decide_eq_true (show (J.length : Int) ≤ 5000 by omega), decide_eq_true (show (L.length : Int) ≤ 5000 by omega)]
 rfl
theorem nm_long (l : List ByteArray) (s : ByteArray) (h : s ∈ l) : s.size + 1 ≤ (nmSt l).1.length := by
 obtain ⟨i, hi, rfl⟩ := List.getElem_of_mem h
 obtain ⟨p, h1, _⟩ := (nm_inv l).at_ i hi
 obtain ⟨pre, post, h2, _⟩ := (nm_inv l).place _ p h1
 rw [h2]
 have : l[i].data.toList.length = l[i].size := Array.length_toList
 simp only [List.length_append, List.length_cons, this]
 omega
theorem has_zero {s : ByteArray} (h : (0 : UInt8) ∈ s.data.toList) : hasZero s = true := by
 unfold hasZero
 refine decide_eq_true ?_
 rcases Int.lt_or_le (Lib.indexByte s.data.toList 0) 0 with h2 | h2
 ·
  exact absurd rfl (idx_none _ h2 0 h)
 ·
  exact h2
theorem no_zero {s : ByteArray} (h : ∀ b ∈ s.data.toList, b ≠ 0) : hasZero s = false := by
 unfold hasZero
 have key : ∀ l : List UInt8, (∀ b ∈ l, b ≠ 0) → Lib.indexByte l 0 = -1 := by
  intro l
  induction l with
  | nil => exact fun _ => rfl
  | cons b l ih =>
   intro h
   rw [Lib.indexByte, if_neg (by intro e; exact h b (List.mem_cons_self ..) (eq_of_beq e)), ih (fun x hx => h x (List.mem_cons_of_mem _ hx))]
   rfl
 rw [key _ h]
 decide
theorem no_more {s : ByteArray} {j : Nat} (h : ∀ b ∈ s.data.toList.take j, b ≠ 0) (hj : j < s.size) (hn : s[j] ≠ 0) : ∀ b ∈ s.data.toList.take (j + 1), b ≠ 0 := by
 intro b hb
 have hl : j < s.data.toList.length := by rw [Array.length_toList]; exact hj
 rw [List.take_succ_eq_append_getElem hl, List.mem_append, List.mem_singleton] at hb
 rcases hb with hb | rfl
 ·
  exact h b hb
 ·
  exact hn
theorem kok_zero {k : Nat} {s : ByteArray} (e : s = (rd_T56 K (k : Int)).f2) (h : (0 : UInt8) ∈ s.data.toList) : kokB K S U k = false := by
 unfold kokB
 rw [← e, has_zero h]
 simp
theorem rb_long {k : Nat} (hk : k < K.length) (h : 255 < (rd_T56 K (k : Int)).f2.size) : rightB a1 a2 K J L S U = false := by
 have e : rd_T56 K (k : Int) = K[k] := by unfold rd_T56; simp [hk]
 have := nm_long (names K) K[k].f2 (by unfold names; exact List.mem_map.2 ⟨K[k], List.getElem_mem hk, rfl⟩)
 rw [e] at h
 exact rb_names (by omega)
theorem rb_jump {k : Nat} (hk : k < J.length) (h : jokB (K.length : Int) a1 J k = false) : rightB a1 a2 K J L S U = false := by
 unfold rightB jumpedB
 rw [all_no _ hk h]
 simp
theorem rb_leap {k : Nat} (hk : k < L.length) (h : lokB a2 a1 L k = false) : rightB a1 a2 K J L S U = false := by
 unfold rightB leapedB
 rw [all_no _ hk h]
 simp
end
theorem rr_marks (A : Option Addr) (c n : Nat) (l : List Bool) (w : World) (hl : l.length ≤ 1000000) (hn : n ≤ 1000000) (r : Bool) (hr_ : decide (l.length = 0 ∨ l.length = n) = r) :
  Calls Try.prog 23 #[.slice A l.length c, .int .i64 n] w fun e w' => e = .returned (.bool r) ∧ Below w.heap.size w w' := by
 have hr := Aside0.mk hr_
 clear hr_
 go_enter Try.func23, Try.ntmps23
 by_cases h0 : l.length = 0
 ·
  have d0 : ((l.length : Int) == 0) = true := by simpa using h0
  go_wp2
  go_ret
  exact ⟨by rw [← hr.out, decide_eq_true (.inl h0)]; rfl, Below.refl _ _⟩
 ·
  have d0 : ((l.length : Int) == 0) = false := by simpa using h0
  by_cases h1 : l.length = n
  ·
   have d1 : ((l.length : Int) == (n : Int)) = true := beq_iff_eq.2 (by omega)
   go_wp2
   go_ret
   exact ⟨by rw [← hr.out, decide_eq_true (.inr h1)]; rfl, Below.refl _ _⟩
  ·
   have d1 : ((l.length : Int) == (n : Int)) = false := beq_eq_false_iff_ne.2 (by omega)
   go_wp2
   go_ret
   exact ⟨by rw [← hr.out, decide_eq_false (by omega)]; rfl, Below.refl _ _⟩
theorem st1 {c v : Int} (h1 : -9223372036854775808 ≤ c ∧ c ≤ 9223372036854775807) (h2 : -9223372036854775808 ≤ v ∧ v ≤ 9223372036854775807) : (c == wrap64 (v + 1)) = (wrap64 (c - v) == 1) := by
 rw [Bool.eq_iff_iff, beq_iff_eq, beq_iff_eq]
 unfold wrap64
 omega
theorem st2 {c v : Int} (h1 : -9223372036854775808 ≤ c ∧ c ≤ 9223372036854775807) (h2 : -9223372036854775808 ≤ v ∧ v ≤ 9223372036854775807) : (c == wrap64 (v - 1)) = (wrap64 (c - v) == -1) := by
 rw [Bool.eq_iff_iff, beq_iff_eq, beq_iff_eq]
 unfold wrap64
 omega
theorem st0 {c v : Int} (h1 : -9223372036854775808 ≤ c ∧ c ≤ 9223372036854775807) (h2 : -9223372036854775808 ≤ v ∧ v ≤ 9223372036854775807) : (c == v) = (wrap64 (c - v) == 0) := by
 rw [Bool.eq_iff_iff, beq_iff_eq, beq_iff_eq]
 unfold wrap64
 omega
theorem rr_names (A : Option Addr) (c : Nat) (K : List S56) (w : World) (h : Kd.C k56 w A K.length K) (hc : K.length ≤ c) (h1 : K.length ≤ 1000000) (h2 : nmSum (names K) ≤ 1000000) :
  Calls Try.prog 24 #[.slice A K.length c] w fun e w' => ∃ A1 c1 v1, e = .returned (.tuple #[.slice A1 (nmSt (names K)).1.length c1, v1]) ∧ Below w.heap.size w w' := by
 obtain ⟨k, hk⟩ := names_f h1 h2
 refine (PR.longcaseref06_Names.calls k A c K _ _ w h hc hk).mono ?_
 rintro e w' ⟨v0, v1, rfl, ho0, _, hb⟩
 obtain ⟨A1, c1, rfl⟩ := Kd.R_slice ho0
 exact ⟨A1, c1, v1, by rw [nbs_len], hb⟩
theorem fits8 (n : Int) : fitsB n 8 = true := by unfold fitsB; rw [if_neg (by decide)]
theorem fits4 (n : Int) : fitsB n 4 = (decide (-2147483648 ≤ n) && decide (n ≤ 2147483647)) := by
 unfold fitsB
 rw [if_pos rfl]
 have e : wrap32 n = (n + 2147483648) % 4294967296 - 2147483648 := by
  unfold wrap32
  omega
 rw [w64 (by omega) (by omega), e]
 by_cases h : -2147483648 ≤ n ∧ n ≤ 2147483647
 ·
  rw [decide_eq_true h.1, decide_eq_true h.2]
  exact beq_iff_eq.2 (by omega)
 ·
  have : ¬ (n = (n + 2147483648) % 4294967296 - 2147483648) := by omega
  rw [beq_eq_false_iff_ne.2 this]
  simp
  omega
theorem rr_fits (n a : Int) (ha : a = 4 ∨ a = 8) (w : World) (m : Nat) : Calls Try.prog 25 #[.int .i64 n, .int .i64 a] (w.drewN m) fun e w'' => e = .returned (.bool (fitsB n a)) ∧ ∃ j, w'' = w.drewN j := by
 go_enter Try.func25, Try.ntmps25
 rcases ha with rfl | rfl
 ·
  by_cases h1 : -2147483648 ≤ n
  ·
   have d1 : decide (-2147483648 ≤ n) = true := decide_eq_true h1
   by_cases h2 : n ≤ 2147483647
   ·
    have d2 : decide (n ≤ 2147483647) = true := decide_eq_true h2
    go_wp2
    go_ret
    exact ⟨by rw [fits4, d1, d2]; rfl, m, rfl⟩
   ·
    have d2 : decide (n ≤ 2147483647) = false := decide_eq_false h2
    go_wp2
    go_ret
    exact ⟨by rw [fits4, d1, d2]; rfl, m, rfl⟩
  ·
   have d1 : decide (-2147483648 ≤ n) = false := decide_eq_false h1
   go_wp2
   go_ret
   exact ⟨by rw [fits4, d1]; rfl, m, rfl⟩
 ·
  go_wp2
  go_ret
  exact ⟨by rw [fits8]; rfl, m, rfl⟩
def longcaseref06_Right.T24 : Bool × List (List Nat × List Nat) := (true, [([], []), ([0], [0]), ([1], [1]), ([2], [2]), ([3, 2], [2, 3]), ([2], [2]), ([5, 2], [2, 5]), ([2], [2]), ([7, 2], [2, 7]), ([6, 8, 2], [2, 6, 8]), ([9, 2], [2, 9]), ([10, 2], [2, 10]), ([4, 11, 2], [2, 4, 11]), ([2, 12], [2, 12]), ([13, 2], [13]), ([14], [14]), ([15, 14], [14, 15]), ([16, 14], [14, 16]), ([14, 17], [14, 17]), ([18, 14], [18]), ([19], [19]), ([20, 19], [19, 20]), ([19], [19]), ([21, 22, 19], [19, 21, 22]), ([19, 23], [19, 23]), ([24, 19], [24]), ([25], [25]), ([26, 25], [25, 26]), ([25], [25]), ([27, 28, 25, 25], [25, 27, 28]), ([29, 25], [25, 29]), ([25, 30], [25, 30])])
def longcaseref06_Right.B24 : List Nat := [0, 1, 3, 7, 15, 7, 39, 7, 135, 487, 999, 2023, 4095, 8191, 16383, 32767, 65535, 131071, 262143, 524287, 1048575, 2097151, 1048575, 8388607, 16777215, 33554431, 67108863, 134217727, 67108863, 536870911, 1073741823, 2147483647]
theorem longcaseref06_Right.tab24 : rtab .any (opsOf Try.f13 24) = longcaseref06_Right.T24 := by kernel_rfl
theorem longcaseref06_Right.bits24 : waitsOk longcaseref06_Right.T24.2 longcaseref06_Right.B24 = true := by kernel_rfl
def longcaseref06_Right.T33 : Bool × List (List Nat × List Nat) := (true, [([], []), ([0], [0]), ([1], [1]), ([2], [2]), ([3, 2], [2, 3]), ([4, 2], [2, 4]), ([2, 5], [2, 5]), ([6, 2], [6]), ([7], [7]), ([8, 7], [7, 8]), ([9, 7, 7], [7, 9]), ([10], [10]), ([11, 10], [10, 11]), ([10], [10]), ([13, 10], [10, 13]), ([10], [10]), ([15, 10], [10, 15]), ([14, 16, 10], [10, 14, 16]), ([17, 10], [10, 17]), ([18, 10], [10, 18]), ([12, 19, 10], [10, 12, 19]), ([10, 20, 7], [7, 10, 20]), ([7, 21], [7, 21]), ([22, 10], [22]), ([23], [23]), ([24, 23], [23, 24]), ([25, 23, 23], [23, 25]), ([26], [26]), ([27, 26], [26, 27]), ([26, 28, 23], [23, 26, 28]), ([23, 29], [23, 29]), ([30, 26], [30]), ([31], [31]), ([32, 31], [31, 32]), ([31], [31]), ([33, 34, 31, 31], [31, 33, 34]), ([35, 31], [31, 35]), ([31, 36], [31, 36])])
def longcaseref06_Right.B33 : List Nat := [0, 1, 3, 7, 15, 31, 63, 127, 255, 511, 1023, 2047, 4095, 2047, 10239, 2047, 34815, 124927, 255999, 518143, 1048575, 2097151, 4194303, 8388607, 16777215, 33554431, 67108863, 134217727, 268435455, 536870911, 1073741823, 2147483647, 4294967295, 8589934591, 4294967295, 34359738367, 68719476735, 137438953471]
theorem longcaseref06_Right.tab33 : rtab .any (opsOf Try.f13 33) = longcaseref06_Right.T33 := by kernel_rfl
theorem longcaseref06_Right.bits33 : waitsOk longcaseref06_Right.T33.2 longcaseref06_Right.B33 = true := by kernel_rfl
section
variable {P : Program} {ops : Array Oper} {Q : Exit → Act → World → Prop} {md : Region.Mode} {S : World → Prop} {ds : List Nat} {T : Bool × List (List Nat × List Nat)}
theorem no_ (i : Nat) (N : Option Tmp) (l' : Array Bool) {oi : Oper} {fuel : Nat} {l : Array Bool} {a a' : Act} {w : World} (hT : Aside0 (rtab md ops = T)) (h : wpAnyLast P md ops Q S ds fuel l' a' w)
  (hi : ops[i]? = some oi := by rfl) (hN : oi.dst = N := by rfl) (hc : anyT T l.toList l'.toList i = true := by kernel_rfl) (hQ : ∀ c a w, Q (.panic c) (a.put oi.dst undef) w → Q (.panic c) a w := by exact fun _ _ _ h => h)
  (hw : Region.wanted oi (yielded ops a.tmps) = false := by rfl)
  (ha : a.put N undef = a' := by simp only [Act.put, List.setIfInBounds_toArray, List.set_cons_zero, List.set_cons_succ, i64_w, i32_w]; rfl) : wpAnyLast P md ops Q S ds (fuel + 1) l a w :=
 pure_ l' hi hN (any_of hT.out hc) hQ (Or.inr ⟨hw, rfl⟩) ha h
end
end Go.Proofs.Ythobnoknbdljgaa.Hand
end
