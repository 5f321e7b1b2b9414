/- What the claim needs of its texts, one behind the other (laid by a program of the session's). -/
import Derived.Test.YthobnoknbdljgaaZMarks4
import Derived.Lib.SmallJoins
import Derived.Deep.Slices
import Derived.Deep.Strs
import Derived.Deep.Fields
import Derived.ChangeSame
section
namespace Go.Proofs.Ythobnoknbdljgaa.Hand
open Go.RowKit Go.Proofs.YthobnoknbdljgaaW.PrintWords Go.Proofs.YthobnoknbdljgaaW.PrintLast Go.Proofs.YthobnoknbdljgaaW.PrintMore PB0
attribute [local irreducible] setL putL
set_option linter.unusedVariables false
set_option linter.unusedSimpArgs false
def mL : List (Nat × Nat) := [(20, 1), (22, 3), (24, 5), (25, 6), (8, 7)]
def mI : List Nat := [1, 3, 5, 6, 7, 8]
theorem mname_frame {P : Program} {ops : Array Oper} {Q : Exit → Act → World → Prop} {md : Region.Mode} {S : World → Prop} {z n : Nat} {ls : Array Bool} {a : Act} {w : World} (h : ∀ l0 a0, l0 = ls → a0 = a → wpZ P md ops Q S z n l0 a0 w) : wpZ P md ops Q S z n ls a w := h _ _ rfl rfl
theorem mR_put5 {α : Type} {d : Kd α} {e B t g : Nat} {xs : List α} {v v0 v1 v2 v3 v4 : Value} {cs : Array Value} {W : World} (hd : ∀ {w : World} {ok1 ok2 : Nat → Prop} {x : α} {cs : List Value}, d.M w B ok1 x cs → d.M w B ok2 x cs) (hR : d.R e W B (fun _ => True) v xs) (hb3 : W.heap[g]? = some (.cells cs t (0, 0))) (hne : e ≠ t) :
  d.R e (((((W.setCell ⟨g, 0, none⟩ v0).setCell ⟨g, 1, none⟩ v1).setCell ⟨g, 2, none⟩ v2).setCell ⟨g, 3, none⟩ v3).setCell ⟨g, 4, none⟩ v4) B (fun _ => True) v xs := by
 have hty := Kd.R_typed hR
 refine Kd.R_flat hd (Kd.R_move (Kd.R_flat (ok' := fun k => v.ownBlock = some k) hd hR (fun k hk _ => hk)) (fun k hk => ?_)) (fun _ _ _ => trivial)
 obtain ⟨q1, q2⟩ := hty k hk
 have hk2 : k ≠ g := by
  rintro rfl
  rw [hb3] at q2
  injection q2 with q2
  injection q2 with _ q3 _
  exact hne q3.symm
 exact (put5_far q2 hk2).trans q2.symm
theorem mskip_step {P : Program} {ops : Array Oper} {o : Oper} {a : Act} {Kc : Act → World → Prop} {Q : Exit → Act → World → Prop} {W w1 : World} (hw : Region.wanted o (yielded ops a.tmps) = true) (hrun : (execOp a.eval o).run P W = .ok .skip w1) (h : Kc (a.put o.dst undef) w1) : if Region.wanted o (yielded ops a.tmps) = true then Oper.wp P o a W Kc Q else Kc (a.put o.dst undef) W := by
 rw [if_pos hw]
 unfold Oper.wp
 rw [hrun]
 exact h
theorem mnot_mem_of_eq {l : List Nat} {i : Nat} (h : i ∈ l) (e : l = []) : False := by subst e; cases h
theorem mk_and16 (n : Int) : Go.bits .and .i64 n 65535 = n % 65536 := by
 have h127 : (BitVec.ofInt 64 65535).toNat = 2 ^ 16 - 1 := by decide
 have key : (BitVec.ofInt 64 n &&& BitVec.ofInt 64 65535).toNat = (n % ((2 ^ 64 : Nat) : Int)).toNat % 2 ^ 16 := by
  rw [BitVec.toNat_and, BitVec.toNat_ofInt, h127, Nat.and_two_pow_sub_one_eq_mod]
 show IntKind.i64.wrap ((BitVec.ofInt 64 n &&& BitVec.ofInt 64 65535).toNat : Nat) = n % 65536
 rw [key, IntKind.wrap_i64]
 omega
theorem bool_put {e base g n cap : Nat} {W : World} {xs : List Bool} (h : Kd.bool.R e W base (fun _ => True) (.slice (some ⟨g, 0, none⟩) n cap) xs) (i : Nat) (hi : i < n) (b : Bool) :
  Kd.bool.R e (W.setCell ⟨g, i, none⟩ (.bool b)) base (fun _ => True) (.slice (some ⟨g, 0, none⟩) n cap) (xs.set i b) ∧ W.cell? ⟨g, i, none⟩ = some (.bool (rdOf false xs (i : Int))) ∧ W.frozen? ⟨g, i, none⟩ = false := by
 obtain ⟨c, hcl, hM, hcc, hf⟩ := Kd.R_elem h false (i : Int) (by omega) (by omega)
 have hs : Kd.bool.sz = 1 := rfl
 have hc : c = [.bool (xs.getD (i : Int).toNat false)] := hM
 rw [Int.toNat_natCast] at hcc hf hc
 rw [hs] at hcc hf
 subst hc
 have hq := Kd.R_seg h (i : Int) (by omega) (by omega) (seg := [.bool b]) (j := 0) (okp := fun k => k ≠ g) (x' := b) hcl (fun j u hu => by rw [Int.toNat_natCast, hs]; exact hcc j u hu) (by rw [hs]; exact Nat.le_refl _) rfl (fun k hk => ⟨trivial, hk⟩)
 rw [Int.toNat_natCast, hs, Nat.mul_one, Nat.add_zero] at hq
 refine ⟨hq.1, ?_, ?_⟩
 ·
  have := hcc 0 _ rfl
  rw [Nat.mul_one, Nat.add_zero] at this
  rw [this]
  unfold rdOf
  rw [Int.toNat_natCast]
 ·
  have := hf 0
  rwa [Nat.mul_one, Nat.add_zero] at this
theorem bool_far {e b : Nat} {W : World} {v u : Value} {xs : List Bool} {g i : Nat} (h : Kd.bool.R e W b (fun _ => True) v xs) (hne : v.ownBlock ≠ some g) : Kd.bool.R e (W.setCell ⟨g, i, none⟩ u) b (fun _ => True) v xs :=
 Kd.R_flat (fun h_ => h_) (Kd.R_far (Kd.R_flat (ok' := fun k => v.ownBlock = some k) (fun h_ => h_) h (fun k hk _ => hk)) (p := ⟨g, i, none⟩) (fun k hk e => hne (hk.trans (congrArg some e))) u) (fun _ _ _ => trivial)
theorem right_of {w : World} {b0 b1 b2 : Nat} {ok0 ok1 ok2 : Nat → Prop} {A0 A3 A4 : Option Addr} {n0 n3 n4 c0 c3 c4 : Nat} {x0 : List S56} {x3 x4 : List Bool} {r : Bool} (h0 : Kd.R k56 56 w b0 ok0 (.slice A0 n0 c0) x0) (h3 : Kd.R Kd.bool 4 w b1 ok1 (.slice A3 n3 c3) x3) (h4 : Kd.R Kd.bool 4 w b2 ok2 (.slice A4 n4 c4) x4) (hf : Stub.block_Right.f x0 [] [] x3 x4 8 2 = some r) :
  Calls Try.prog 16 #[.agg #[.slice A0 n0 c0, .slice none 0 0, .slice none 0 0, .slice A3 n3 c3, .slice A4 n4 c4], .int .i64 8, .int .i64 2] w fun e w' => e = .returned (.bool r) ∧ Below w.heap.size w w' := by
 obtain ⟨p0, q0, r0⟩ := Kd.R_reads' h0
 obtain ⟨p3, q3, r3⟩ := Kd.R_reads' h3
 obtain ⟨p4, q4, r4⟩ := Kd.R_reads' h4
 subst p0 p3 p4
 exact Stub.block_Right.calls A0 c0 x0 none 0 [] none 0 [] A3 c3 x3 A4 c4 x4 8 2 r w r0 (by omega) (nilC _ _) (Nat.le_refl _) (nilC _ _) (Nat.le_refl _) r3 (by omega) r4 (by omega) hf
set_option maxHeartbeats 4000000 in
set_option maxRecDepth 100000 in
theorem marks_walk (A0 : Option Addr) (c0 : Nat) (l0 : List Bool) (A1 : Option Addr) (c1 : Nat) (l1 : List Bool) (a2 : Int) (w : World) (hr0 : Kd.C Kd.bool w A0 l0.length l0) (hc0 : l0.length ≤ c0) (hr1 : Kd.C Kd.bool w A1 l1.length l1) (hc1 : l1.length ≤ c1) :
  Calls Try.prog 10 #[.slice A0 l0.length c0, .slice A1 l1.length c1, .int .i64 a2] w fun e w' => e = .returned (.bool true) ∧ Below w.heap.size w w' := by
 have hu27 := Try.underlying27
 have HB := Aside0.mk (Below.refl w.heap.size w)
 have HR0 := Aside0.mk hr0
 have HR1 := Aside0.mk hr1
 clear hr0 hr1
 obtain ⟨n, hn, hn1, hn2⟩ : ∃ n : Nat, wrap64 (1 + (Go.bits .and .i64 a2 65535).tmod 20) = (n : Int) ∧ 1 ≤ n ∧ n ≤ 20 := by
  have h0 : 0 ≤ a2 % 65536 := Int.emod_nonneg _ (by decide)
  rw [mk_and16]
  rw [Int.tmod_eq_emod_of_nonneg h0, w64 (by omega) (by omega)]
  exact ⟨(1 + a2 % 65536 % 20).toNat, by omega, by omega, by omega⟩
 go_enter Try.func10, Try.ntmps10
 go_upto_region 3 with (first
  | (go_at_call 11; (with_reducible refine (Stub2.longcaselaw06_shown.calls true _ rfl).mono ?_); rintro e w1 ⟨rfl, hb⟩; have n0_ := Aside0.mk (below_step HB.out hb); clear HB; have HB := n0_; clear n0_ hb))
 rw [hn]
 clear hn
 refine region_Z 99 (fun _ => True) (by kernel_rfl) ?_
 (refine wpZ_take (i := 0) (oi := _) (v := ?zv1) rfl (by kernel_rfl) (by kernel_rfl) (by kernel_rfl) (by kernel_rfl) (fun _ _ _ h => h) (Or.inl ⟨by rfl, ?zy1⟩) ?zS1 ?zr1; (case zy1 => (intro w_ hSw; (try dsimp only at hSw); go_simp; try (with_reducible rfl))); (case zS1 => trivial); (try simp only [Act.put, List.getElem_toArray, List.getElem_cons_succ, List.getElem_cons_zero, List.setIfInBounds_toArray, List.set_cons_zero, List.set_cons_succ])); (refine wpZ_take (i := 2) (oi := _) (v := ?zv2) rfl (by kernel_rfl) (by kernel_rfl) (by kernel_rfl) (by kernel_rfl) (fun _ _ _ h => h) (Or.inl ⟨by rfl, ?zy2⟩) ?zS2 ?zr2; (case zy2 => (intro w_ hSw; (try dsimp only at hSw); go_simp; try (with_reducible rfl))); (case zS2 => trivial); (try simp only [Act.put, List.getElem_toArray, List.getElem_cons_succ, List.getElem_cons_zero, List.setIfInBounds_toArray, List.set_cons_zero, List.set_cons_succ])); (refine wpZ_take (i := 4) (oi := _) (v := ?zv3) rfl (by kernel_rfl) (by kernel_rfl) (by kernel_rfl) (by kernel_rfl) (fun _ _ _ h => h) (Or.inl ⟨by rfl, ?zy3⟩) ?zS3 ?zr3; (case zy3 => (intro w_ hSw; (try dsimp only at hSw); go_simp; try (with_reducible rfl))); (case zS3 => trivial); (try simp only [Act.put, List.getElem_toArray, List.getElem_cons_succ, List.getElem_cons_zero, List.setIfInBounds_toArray, List.set_cons_zero, List.set_cons_succ]))
 refine mname_frame ?_
 intro ls0 a0 hl ha
 have hl2 : ls0 = #[true, false, true, false, true, false, false, false, false] := hl.trans (by kernel_rfl)
 have HL0 := Aside0.mk hl2
 have HA0 := Aside0.mk ha
 clear hl hl2 ha
 refine Z_inv (fun ls a W => (∃ (s : Nat → Bool) (f : Nat → Value), s 8 = false ∧ ls = setL ls0 mI s ∧ a = putL a0 mL f ∧ FM w n s f W) ∨ (ls = setL ls0 mI (fun _ => true) ∧ ∃ f g3, a = putL a0 mL f ∧ f 7 = .pointer (some ⟨g3, 0, none⟩) ∧ W.heap[g3]? = some (.cells #[f 1, .slice none 0 0, .slice none 0 0, f 3, f 5] 27 (0, 0)) ∧ Kd.R k56 56 W w.heap.size (fun _ => True) (f 1) (List.replicate n z56) ∧ Kd.R Kd.bool 4 W w.heap.size (fun _ => True) (f 3) (List.replicate n false) ∧ Kd.R Kd.bool 4 W w.heap.size (fun _ => True) (f 5) (List.replicate n false) ∧ NeRow (f 3) (f 5) ∧ w.heap.size ≤ g3 ∧ Below w.heap.size w W)) ?he ?hs _ _ _ _ ?hn ?h0
 case hn => rw [HL0.out]; decide
 case h0 =>
  refine .inl ⟨fun _ => false, fun _ => undef, rfl, ?_, ?_, ?_⟩
  ·
   rw [HL0.out]; kernel_rfl
  ·
   refine (putL_self ?_).symm
   rw [HA0.out]
   intro p hp
   simp only [mL, List.mem_cons, List.not_mem_nil, or_false] at hp
   rcases hp with rfl | rfl | rfl | rfl | rfl
   all_goals rfl
  ·
   exact { below := below_drew1 HB.out, r1 := fun h => (by cases h), r3 := fun h => (by cases h), r5 := fun h => (by cases h), d := fun h => (by cases h), al := fun h => (by cases h), bd := fun h => (by cases h) }
 case hs =>
  rintro ls a W (⟨s, f, h47, rfl, rfl, h⟩ | ⟨rfl, _⟩) i hm
  ·
   have eL := HL0.out
   have eA := HA0.out
   clear HL0 HA0 HB hu27
   have nd1 : mI.Nodup := by decide
   have nd2 : (mL.map Prod.fst).Nodup := by decide
   have nd3 : (mL.map Prod.snd).Nodup := by decide
   have hlz : ls0.size = 9 := by rw [eL]; rfl
   have haz : 50 < a0.tmps.size := by rw [eA]; exact Nat.le_of_ble_eq_true rfl
   have hi : i < 9 := by have h_ := ready_lt hm; rw [setL_size, hlz] at h_; exact h_
   have hin : i ∈ mI := by
    refine Decidable.byContradiction fun hn => ?_
    have h_ := ready_false hm
    rw [setL_out mI s hn, eL] at h_
    exact absurd h_ ((by decide : ∀ k, k < 9 → k ∉ mI → ¬ (#[true, false, true, false, true, false, false, false, false] : Array Bool).getD k true = false) i hi hn)
   have hf : s i = false := by have h_ := ready_false hm; rwa [setL_in mI nd1 hin s ls0 (by omega)] at h_
   have dep := fun (k : Nat) (hk : k ∈ mI) (hw : zwaits .any _ i k = true) => (setL_in mI nd1 hk s ls0 (by rw [hlz]; exact (by decide : ∀ k ∈ mI, k < 9) k hk)).symm.trans (ready_dep hm hw)
   have hbelow := h.below
   have hsz : w.heap.size ≤ W.heap.size := hbelow.size
   clear hm
   simp only [mI, List.mem_cons, List.not_mem_nil, or_false] at hin
   rcases hin with rfl | rfl | rfl | rfl | rfl | rfl
   ·
    have hs : s 1 = false := hf
    refine wpOp_step rfl (fun K hK => ?_)
    refine Kd.R_make_step k56 (w0 := W) W.heap.size 56 (by rfl) (N := 20) rfl 22 (.tmp 19) (.tmp 19) rfl (n : Int) ?hx ?hx Try.underlying22 (.agg #[.int .i64 0, .bool false, .string ⟨#[]⟩]) 32 info_kind rfl (by decide) (by decide) z56 (ok := fun _ => True) (okp := fun _ => False) (k56_mkM _ _ _ z56) (fun _ h_ => h_.elim) trivial (by omega) (by omega) (Below.refl _ _) (Nat.le_refl _) ?_
    case hx => exact (ev_out (by decide) f).trans (by rw [eA]; rfl)
    intro v1 w1 hr hb hg hnew
    rw [Int.toNat_natCast] at hr
    have h1 := h.make1 hs hb (Kd.R_lower hr hsz) hnew
    exact hK _ _ ⟨fun _ => trivial, .inl ⟨upd s 1 true, upd f 1 v1, h47, setL_upd mI nd1 (by decide) s true _, putL_upd mL nd2 nd3 (by decide) f _ _, h1⟩⟩
   ·
    have hs : s 3 = false := hf
    refine wpOp_step rfl (fun K hK => ?_)
    refine Kd.R_make_step Kd.bool (w0 := W) W.heap.size 4 (by rfl) (N := 22) rfl 25 (.tmp 21) (.tmp 21) rfl (n : Int) ?hx ?hx Try.underlying25 (.bool false) 1 (by kernel_rfl) rfl (by decide) (by decide) false (ok := fun _ => True) (okp := fun _ => False) (rfl) (fun _ h_ => h_.elim) trivial (by omega) (by omega) (Below.refl _ _) (Nat.le_refl _) ?_
    case hx => exact (ev_out (by decide) f).trans (by rw [eA]; rfl)
    intro v1 w1 hr hb hg hnew
    rw [Int.toNat_natCast] at hr
    have h1 := h.make3 hs hb (Kd.R_lower hr hsz) hnew
    exact hK _ _ ⟨fun _ => trivial, .inl ⟨upd s 3 true, upd f 3 v1, h47, setL_upd mI nd1 (by decide) s true _, putL_upd mL nd2 nd3 (by decide) f _ _, h1⟩⟩
   ·
    have hs : s 5 = false := hf
    refine wpOp_step rfl (fun K hK => ?_)
    refine Kd.R_make_step Kd.bool (w0 := W) W.heap.size 4 (by rfl) (N := 24) rfl 25 (.tmp 23) (.tmp 23) rfl (n : Int) ?hx ?hx Try.underlying25 (.bool false) 1 (by kernel_rfl) rfl (by decide) (by decide) false (ok := fun _ => True) (okp := fun _ => False) (rfl) (fun _ h_ => h_.elim) trivial (by omega) (by omega) (Below.refl _ _) (Nat.le_refl _) ?_
    case hx => exact (ev_out (by decide) f).trans (by rw [eA]; rfl)
    intro v1 w1 hr hb hg hnew
    rw [Int.toNat_natCast] at hr
    have h1 := h.make5 hs hb (Kd.R_lower hr hsz) hnew
    exact hK _ _ ⟨fun _ => trivial, .inl ⟨upd s 5 true, upd f 5 v1, h47, setL_upd mI nd1 (by decide) s true _, putL_upd mL nd2 nd3 (by decide) f _ _, h1⟩⟩
   ·
    have d1 : s 1 = true := dep 1 (by decide) (by kernel_rfl)
    have d3 : s 3 = true := dep 3 (by decide) (by kernel_rfl)
    have d5 : s 5 = true := dep 5 (by decide) (by kernel_rfl)
    obtain ⟨A1_, n1_, c1_, e1⟩ : ∃ A m c, f 1 = .slice A m c := by obtain ⟨A, c, e⟩ := Kd.R_slice (h.r1 d1); exact ⟨A, _, c, e⟩
    obtain ⟨A3_, n3_, c3_, e3⟩ : ∃ A m c, f 3 = .slice A m c := by obtain ⟨A, c, e⟩ := Kd.R_slice (h.r3 d3); exact ⟨A, _, c, e⟩
    obtain ⟨A5_, n5_, c5_, e5⟩ : ∃ A m c, f 5 = .slice A m c := by obtain ⟨A, c, e⟩ := Kd.R_slice (h.r5 d5); exact ⟨A, _, c, e⟩
    have h1 := h.build d1 d3 d5
    refine wpOp_step rfl (fun K hK => ?_)
    refine event_step (by rfl) (v := .agg #[f 1, .slice none 0 0, .slice none 0 0, f 3, f 5]) (w1 := W) ?hrun ?_
    case hrun =>
     have v1 := (ev_in (a := a0) nd2 (show (20, 1) ∈ mL by decide) f (by omega)).trans e1
     have v3 := (ev_in (a := a0) nd2 (show (22, 3) ∈ mL by decide) f (by omega)).trans e3
     have v5 := (ev_in (a := a0) nd2 (show (24, 5) ∈ mL by decide) f (by omega)).trans e5
     generalize (putL a0 mL f).eval = E_ at v1 v3 v5 ⊢
     rw [e1, e3, e5]
     first | done | (go_simp; done) | (go_simp; rfl)
    exact hK _ _ ⟨fun _ => trivial, .inl ⟨upd s 6 true, upd f 6 (.agg #[f 1, .slice none 0 0, .slice none 0 0, f 3, f 5]), h47, setL_upd mI nd1 (by decide) s true _, putL_upd mL nd2 nd3 (by decide) f _ _, h1⟩⟩
   ·
    refine wpOp_step rfl (fun K hK => ?_)
    refine event_step (by rfl) (v := .pointer (some ⟨W.heap.size, 0, none⟩)) (w1 := W.alloc (.cells #[.slice none 0 0, .slice none 0 0, .slice none 0 0, .slice none 0 0, .slice none 0 0] 27)) ?hrun ?_
    case hrun => first | (go_simp; done) | (go_simp; rfl)
    have h1 := h.alloc (below_alloc (Below.refl _ W) (.cells #[.slice none 0 0, .slice none 0 0, .slice none 0 0, .slice none 0 0, .slice none 0 0] 27)) (blk_new W _) hsz
    exact hK _ _ ⟨fun _ => trivial, .inl ⟨upd s 7 true, upd f 7 _, h47, setL_upd mI nd1 (by decide) s true _, putL_upd mL nd2 nd3 (by decide) f _ _, h1⟩⟩
   ·
    have d6 : s 6 = true := dep 6 (by decide) (by kernel_rfl)
    have d7 : s 7 = true := dep 7 (by decide) (by kernel_rfl)
    obtain ⟨e6, d1, d3, d5⟩ := h.bd d6
    obtain ⟨g3, e7, hb3, hge⟩ := h.al d7
    obtain ⟨A1_, n1_, c1_, e1⟩ : ∃ A m c, f 1 = .slice A m c := by obtain ⟨A, c, e⟩ := Kd.R_slice (h.r1 d1); exact ⟨A, _, c, e⟩
    obtain ⟨A3_, n3_, c3_, e3⟩ : ∃ A m c, f 3 = .slice A m c := by obtain ⟨A, c, e⟩ := Kd.R_slice (h.r3 d3); exact ⟨A, _, c, e⟩
    obtain ⟨A5_, n5_, c5_, e5⟩ : ∃ A m c, f 5 = .slice A m c := by obtain ⟨A, c, e⟩ := Kd.R_slice (h.r5 d5); exact ⟨A, _, c, e⟩
    have v3 : (putL a0 mL f).eval (.tmp 8) = .pointer (some ⟨g3, 0, none⟩) := (ev_in nd2 (show (8, 7) ∈ mL by decide) f (by omega)).trans e7
    have v50 : (putL a0 mL f).eval (.tmp 25) = .agg #[f 1, .slice none 0 0, .slice none 0 0, f 3, f 5] := (ev_in nd2 (show (25, 6) ∈ mL by decide) f (by omega)).trans e6
    have s0_ : W.cell? ⟨g3, 0, none⟩ = some (.slice none 0 0) := (blk_cell hb3 0).trans rfl
    have s1_ : W.cell? ⟨g3, 1, none⟩ = some (.slice none 0 0) := (blk_cell hb3 1).trans rfl
    have s2_ : W.cell? ⟨g3, 2, none⟩ = some (.slice none 0 0) := (blk_cell hb3 2).trans rfl
    have s3_ : W.cell? ⟨g3, 3, none⟩ = some (.slice none 0 0) := (blk_cell hb3 3).trans rfl
    have s4_ : W.cell? ⟨g3, 4, none⟩ = some (.slice none 0 0) := (blk_cell hb3 4).trans rfl
    have y0_ := blk_frozen hb3 0
    have y1_ := blk_frozen hb3 1
    have y2_ := blk_frozen hb3 2
    have y3_ := blk_frozen hb3 3
    have y4_ := blk_frozen hb3 4
    refine wpOp_step rfl (fun K hK => ?_)
    have hrun : ∀ E_ : Operand → Value, E_ (.tmp 8) = .pointer (some ⟨g3, 0, none⟩) → E_ (.tmp 25) = .agg #[f 1, .slice none 0 0, .slice none 0 0, f 3, f 5] → (execOp E_ ({ dst := none, op := Op.store 27 (Operand.tmp 8) (Operand.tmp 25), type := 0, pos := "more.go:62", after := #[], guard := none })).run Try.prog W = .ok .skip (((((W.setCell ⟨g3, 0, none⟩ (f 1)).setCell ⟨g3, 1, none⟩ (.slice none 0 0)).setCell ⟨g3, 2, none⟩ (.slice none 0 0)).setCell ⟨g3, 3, none⟩ (f 3)).setCell ⟨g3, 4, none⟩ (f 5)) := by
     intro E_ v3 v50
     rw [e1, e3, e5] at v50 ⊢
     go_simp
    refine mskip_step (by rfl) (hrun _ v3 v50) ?_
    refine hK _ _ ⟨fun _ => trivial, .inr ⟨(setL_upd mI nd1 (by decide) s true _).trans (setL_congr mI ?_ _), f, g3, rfl, e7, put5_at hb3, ?_⟩⟩
    ·
     intro p hp
     simp only [mI, List.mem_cons, List.not_mem_nil, or_false] at hp
     rcases hp with rfl | rfl | rfl | rfl | rfl | rfl
     all_goals first | rfl | exact d1 | exact d3 | exact d5 | exact d6 | exact d7
    ·
     exact ⟨mR_put5 (fun h_ => h_) (h.r1 d1) hb3 (by decide), mR_put5 (fun h_ => h_) (h.r3 d3) hb3 (by decide), mR_put5 (fun h_ => h_) (h.r5 d5) hb3 (by decide), h.d d3 d5, hge, put5_below hbelow hge⟩
  ·
   exact (mnot_mem_of_eq hm (by rw [HL0.out]; kernel_rfl)).elim
 case he =>
  rintro ls a W (⟨s, f, h47, e1, e2, h⟩ | ⟨e1, f, g3, e2, h⟩) hr
  ·
   exfalso
   subst e1
   have q := all_done (md := .any) (by kernel_rfl) (by rw [setL_size, HL0.out]; rfl) hr 8
   rw [setL_in mI (by decide) (by decide) s ls0 (by rw [HL0.out]; decide), h47] at q
   cases q
  ·
   subst e1 e2
   clear hr
   have eA := HA0.out
   clear HA0 HL0
   subst eA
   simp only [putL, mL, List.foldl_cons, List.foldl_nil, Act.put, List.setIfInBounds_toArray, List.set_cons_zero, List.set_cons_succ]
   obtain ⟨hp, hb3, hr1, hr3, hr5, hne, hge, hbl⟩ := h
   obtain ⟨A3, m3, c3, e3⟩ : ∃ A m c, f 1 = .slice A m c := by obtain ⟨A, c, e⟩ := Kd.R_slice hr1; exact ⟨A, _, c, e⟩
   obtain ⟨A5, c5, e5⟩ := Kd.R_slice hr3
   obtain ⟨A6, c6, e6⟩ := Kd.R_slice hr5
   rw [List.length_replicate] at e5 e6
   rw [e3] at hb3 hr1
   rw [e5] at hb3 hr3 hne
   rw [e6] at hb3 hr5 hne
   rw [← mkL_zero n (rdOf false l0 ∘ Int.ofNat)] at hr3
   rw [← mkL_zero n (rdOf false l1 ∘ Int.ofNat)] at hr5
   obtain ⟨gs, hgs⟩ : ∃ x, x = rdOf false l0 ∘ Int.ofNat := ⟨_, rfl⟩
   obtain ⟨gu, hgu⟩ : ∃ x, x = rdOf false l1 ∘ Int.ofNat := ⟨_, rfl⟩
   rw [← hgs] at hr3
   rw [← hgu] at hr5
   have HGS := Aside0.mk hgs
   have HGU := Aside0.mk hgu
   obtain ⟨p5, q5, hv5, h50, _, _, _⟩ := Kd.R_form hr3 (by rw [mkL_len]; omega)
   obtain ⟨p6, q6, hv6, h60, _, _, _⟩ := Kd.R_form hr5 (by rw [mkL_len]; omega)
   rw [mkL_len] at hv5 hv6
   injection hv5 with e5a _ e5b
   injection hv6 with e6a _ e6b
   subst e5a e5b e6a e6b
   rw [hp]
   have NE56 := Aside0.mk (show p5 ≠ p6 from fun e => hne p5 rfl (by rw [e]; rfl))
   have NE35 := Aside0.mk (show g3 ≠ p5 from fun e => Kd.R_ne hr3 hb3 (by decide) (by rw [e]; rfl))
   have NE36 := Aside0.mk (show g3 ≠ p6 from fun e => Kd.R_ne hr5 hb3 (by decide) (by rw [e]; rfl))
   have GE5 := Aside0.mk h50
   have GE6 := Aside0.mk h60
   have GE3 := Aside0.mk hge
   have HK := Aside0.mk hr1
   have HS := Aside0.mk hr3
   have HU := Aside0.mk hr5
   have B3 : Aside0 (W.heap[g3]? = some (.cells #[.slice A3 m3 c3, .slice none 0 0, .slice none 0 0, .slice (some ⟨p5, 0, none⟩) n c5, .slice (some ⟨p6, 0, none⟩) n c6] 27 (0, 0))) := ⟨hb3⟩
   have HBL := Aside0.mk hbl
   clear hr1 hr3 hr5 hb3 hne h50 h60 hge hbl hgs hgu e3 e5 e6 hp HB
   go_wp2
   go_loopw [9, 10, 11] (fun x y i wr => ∃ k : Nat, k ≤ n ∧ x = .bool ((List.range k).all fun i => !gu i || gs i) ∧ y = .bool ((List.range k).all fun i => !gu i) ∧ i = .int .i64 k ∧ Aside0 (Kd.R k56 56 wr w.heap.size (fun _ => True) (.slice A3 m3 c3) (List.replicate n z56)) ∧ Aside0 (Kd.R Kd.bool 4 wr w.heap.size (fun _ => True) (.slice (some ⟨p5, 0, none⟩) n c5) (mkL n k gs)) ∧ Aside0 (Kd.R Kd.bool 4 wr w.heap.size (fun _ => True) (.slice (some ⟨p6, 0, none⟩) n c6) (mkL n k gu)) ∧ Aside0 (wr.heap[g3]? = some (.cells #[.slice A3 m3 c3, .slice none 0 0, .slice none 0 0, .slice (some ⟨p5, 0, none⟩) n c5, .slice (some ⟨p6, 0, none⟩) n c6] 27 (0, 0))) ∧ Aside0 (Below w.heap.size w wr)) (fun _ _ i _ => n - (intOf i).toNat)
   case atStart => exact ⟨0, Nat.zero_le _, rfl, rfl, rfl, HK, HS, HU, B3, HBL⟩
   case round =>
    clear HK HS HU B3 HBL
    obtain ⟨k, hk, rfl, rfl, rfl, HK, HS, HU, B3, HBL⟩ := hrel
    by_cases hlt : k < n
    ·
     have cl : decide ((k : Int) < (n : Int)) = true := decide_eq_true (by omega)
     have ck0 : decide (0 ≤ (k : Int)) = true := decide_eq_true (by omega)
     obtain ⟨okv, hokv⟩ : ∃ x, x = (List.range k).all fun i => !gu i || gs i := ⟨_, rfl⟩
     obtain ⟨nov, hnov⟩ : ∃ x, x = (List.range k).all fun i => !gu i := ⟨_, rfl⟩
     rw [← hokv, ← hnov]
     have HOK := Aside0.mk hokv
     have HNO := Aside0.mk hnov
     clear hokv hnov
     go_upto_region 9 with (fail)
     by_cases h0 : k < l0.length
     case' pos =>
      obtain ⟨bp5, hbp5⟩ : ∃ x, x = gs k := ⟨_, rfl⟩
      have hst0 := bool_put HS.out k hlt bp5
      rw [hbp5, mkL_set n k gs hlt, ← hbp5] at hst0
      obtain ⟨hst, hz1, hz2⟩ := hst0
      have HST := Aside0.mk hst
      clear hst
      have cl0 : decide ((k : Int) < (l0.length : Int)) = true := decide_eq_true (by omega)
      obtain ⟨ad, e1, hx⟩ := Kd.at_bool (Kd.C_below HR0.out HBL.out) (k : Int) (by omega) (by omega)
      rw [show rdOf false l0 (k : Int) = bp5 by rw [hbp5, HGS.out]; rfl] at hx
      simp only [Int.toNat_natCast] at hx
      subst e1
      have HX := Aside0.mk hx
      have HBp5 := Aside0.mk hbp5
      clear hx hbp5
      refine region_Z 14 (fun w' => w'.cell? ⟨g3, 3, none⟩ = some (.slice (some ⟨p5, 0, none⟩) n c5) ∧ w'.cell? (ad.add k) = some (.bool bp5)) (by kernel_rfl) ?_
      (refine wpZ_take (i := 0) (oi := _) (v := ?zv4) rfl (by kernel_rfl) (by kernel_rfl) (by kernel_rfl) (by kernel_rfl) (fun _ _ _ h => h) (Or.inl ⟨by rfl, ?zy4⟩) ?zS4 ?zr4; (case zy4 => (intro w_ hSw; (try dsimp only at hSw); go_simp; try (with_reducible rfl))); (case zS4 => exact ⟨(blk_cell B3.out 3).trans rfl, HX.out⟩); (try simp only [Act.put, List.getElem_toArray, List.getElem_cons_succ, List.getElem_cons_zero, List.setIfInBounds_toArray, List.set_cons_zero, List.set_cons_succ])); (refine wpZ_take (i := 1) (oi := _) (v := ?zv5) rfl (by kernel_rfl) (by kernel_rfl) (by kernel_rfl) (by kernel_rfl) (fun _ _ _ h => h) (Or.inl ⟨by rfl, ?zy5⟩) ?zS5 ?zr5; (case zy5 => (intro w_ hSw; (try dsimp only at hSw); go_simp; try (with_reducible rfl))); (case zS5 => exact ⟨(blk_cell B3.out 3).trans rfl, HX.out⟩); (try simp only [Act.put, List.getElem_toArray, List.getElem_cons_succ, List.getElem_cons_zero, List.setIfInBounds_toArray, List.set_cons_zero, List.set_cons_succ])); (refine wpZ_take (i := 2) (oi := _) (v := ?zv6) rfl (by kernel_rfl) (by kernel_rfl) (by kernel_rfl) (by kernel_rfl) (fun _ _ _ h => h) (Or.inl ⟨by rfl, ?zy6⟩) ?zS6 ?zr6; (case zy6 => (intro w_ hSw; (try dsimp only at hSw); go_simp; try (with_reducible rfl))); (case zS6 => exact ⟨(blk_cell B3.out 3).trans rfl, HX.out⟩); (try simp only [Act.put, List.getElem_toArray, List.getElem_cons_succ, List.getElem_cons_zero, List.setIfInBounds_toArray, List.set_cons_zero, List.set_cons_succ])); (refine wpZ_take (i := 3) (oi := _) (v := ?zv7) rfl (by kernel_rfl) (by kernel_rfl) (by kernel_rfl) (by kernel_rfl) (fun _ _ _ h => h) (Or.inl ⟨by rfl, ?zy7⟩) ?zS7 ?zr7; (case zy7 => (intro w_ hSw; (try dsimp only at hSw); go_simp; try (with_reducible rfl))); (case zS7 => exact ⟨(blk_cell B3.out 3).trans rfl, HX.out⟩); (try simp only [Act.put, List.getElem_toArray, List.getElem_cons_succ, List.getElem_cons_zero, List.setIfInBounds_toArray, List.set_cons_zero, List.set_cons_succ])); (refine wpZ_take (i := 4) (oi := _) (v := ?zv8) rfl (by kernel_rfl) (by kernel_rfl) (by kernel_rfl) (by kernel_rfl) (fun _ _ _ h => h) (Or.inl ⟨by rfl, ?zy8⟩) ?zS8 ?zr8; (case zy8 => (intro w_ hSw; (try dsimp only at hSw); go_simp; try (with_reducible rfl))); (case zS8 => exact ⟨(blk_cell B3.out 3).trans rfl, HX.out⟩); (try simp only [Act.put, List.getElem_toArray, List.getElem_cons_succ, List.getElem_cons_zero, List.setIfInBounds_toArray, List.set_cons_zero, List.set_cons_succ])); (refine wpZ_take (i := 5) (oi := _) (v := ?zv9) rfl (by kernel_rfl) (by kernel_rfl) (by kernel_rfl) (by kernel_rfl) (fun _ _ _ h => h) (Or.inl ⟨by rfl, ?zy9⟩) ?zS9 ?zr9; (case zy9 => (intro w_ hSw; (try dsimp only at hSw); go_simp; try (with_reducible rfl))); (case zS9 => exact ⟨(blk_cell B3.out 3).trans rfl, HX.out⟩); (try simp only [Act.put, List.getElem_toArray, List.getElem_cons_succ, List.getElem_cons_zero, List.setIfInBounds_toArray, List.set_cons_zero, List.set_cons_succ])); (refine wpZ_take (i := 6) (oi := _) (v := ?zv10) rfl (by kernel_rfl) (by kernel_rfl) (by kernel_rfl) (by kernel_rfl) (fun _ _ _ h => h) (Or.inl ⟨by rfl, ?zy10⟩) ?zS10 ?zr10; (case zy10 => (intro w_ hSw; (try dsimp only at hSw); go_simp; try (with_reducible rfl))); (case zS10 => exact ⟨(blk_cell B3.out 3).trans rfl, HX.out⟩); (try simp only [Act.put, List.getElem_toArray, List.getElem_cons_succ, List.getElem_cons_zero, List.setIfInBounds_toArray, List.set_cons_zero, List.set_cons_succ])); (refine wpZ_take (i := 7) (oi := _) (v := ?zv11) rfl (by kernel_rfl) (by kernel_rfl) (by kernel_rfl) (by kernel_rfl) (fun _ _ _ h => h) (Or.inl ⟨by rfl, ?zy11⟩) ?zS11 ?zr11; (case zy11 => (intro w_ hSw; (try dsimp only at hSw); go_simp; try (with_reducible rfl))); (case zS11 => exact ⟨(blk_cell B3.out 3).trans rfl, HX.out⟩); (try simp only [Act.put, List.getElem_toArray, List.getElem_cons_succ, List.getElem_cons_zero, List.setIfInBounds_toArray, List.set_cons_zero, List.set_cons_succ])); (refine wpZ_take (i := 8) (oi := _) (v := ?zv12) rfl (by kernel_rfl) (by kernel_rfl) (by kernel_rfl) (by kernel_rfl) (fun _ _ _ h => h) (Or.inl ⟨by rfl, ?zy12⟩) ?zS12 ?zr12; (case zy12 => (intro w_ hSw; (try dsimp only at hSw); go_simp; try (with_reducible rfl))); (case zS12 => exact ⟨(blk_cell B3.out 3).trans rfl, HX.out⟩); (try simp only [Act.put, List.getElem_toArray, List.getElem_cons_succ, List.getElem_cons_zero, List.setIfInBounds_toArray, List.set_cons_zero, List.set_cons_succ])); (refine wpZ_take (i := 9) (oi := _) (v := ?zv13) rfl (by kernel_rfl) (by kernel_rfl) (by kernel_rfl) (by kernel_rfl) (fun _ _ _ h => h) (Or.inl ⟨by rfl, ?zy13⟩) ?zS13 ?zr13; (case zy13 => (intro w_ hSw; (try dsimp only at hSw); go_simp; try (with_reducible rfl))); (case zS13 => exact ⟨(blk_cell B3.out 3).trans rfl, HX.out⟩); (try simp only [Act.put, List.getElem_toArray, List.getElem_cons_succ, List.getElem_cons_zero, List.setIfInBounds_toArray, List.set_cons_zero, List.set_cons_succ])); (refine wpZ_take (i := 10) (oi := _) (v := ?zv14) rfl (by kernel_rfl) (by kernel_rfl) (by kernel_rfl) (by kernel_rfl) (fun _ _ _ h => h) (Or.inl ⟨by rfl, ?zy14⟩) ?zS14 ?zr14; (case zy14 => (intro w_ hSw; (try dsimp only at hSw); go_simp; try (with_reducible rfl))); (case zS14 => exact ⟨(blk_cell B3.out 3).trans rfl, HX.out⟩); (try simp only [Act.put, List.getElem_toArray, List.getElem_cons_succ, List.getElem_cons_zero, List.setIfInBounds_toArray, List.set_cons_zero, List.set_cons_succ])); (refine wpZ_take (i := 11) (oi := _) (v := ?zv15) rfl (by kernel_rfl) (by kernel_rfl) (by kernel_rfl) (by kernel_rfl) (fun _ _ _ h => h) (Or.inl ⟨by rfl, ?zy15⟩) ?zS15 ?zr15; (case zy15 => (intro w_ hSw; (try dsimp only at hSw); go_simp; try (with_reducible rfl))); (case zS15 => exact ⟨(blk_cell B3.out 3).trans rfl, HX.out⟩); (try simp only [Act.put, List.getElem_toArray, List.getElem_cons_succ, List.getElem_cons_zero, List.setIfInBounds_toArray, List.set_cons_zero, List.set_cons_succ])); (refine wpZ_take (i := 12) (oi := _) (v := ?zv16) rfl (by kernel_rfl) (by kernel_rfl) (by kernel_rfl) (by kernel_rfl) (fun _ _ _ h => h) (Or.inl ⟨by rfl, ?zy16⟩) ?zS16 ?zr16; (case zy16 => (intro w_ hSw; (try dsimp only at hSw); go_simp; try (with_reducible rfl))); (case zS16 => exact ⟨(blk_cell B3.out 3).trans rfl, HX.out⟩); (try simp only [Act.put, List.getElem_toArray, List.getElem_cons_succ, List.getElem_cons_zero, List.setIfInBounds_toArray, List.set_cons_zero, List.set_cons_succ]))
      clear cl0
      (refine wpZ_one (i := 13) (by kernel_rfl) rfl (fun K_ hK_ => ?_); go_simp; refine hK_.out _ _ (fun _ => ⟨(blk_cell B3.out 3).trans rfl, HX.out⟩) ?_; clear hK_ K_; (try simp only [Act.put, List.getElem_toArray, List.getElem_cons_succ, List.getElem_cons_zero, List.setIfInBounds_toArray, List.set_cons_zero, List.set_cons_succ]))
      (refine wpZ_one (i := 14) (by kernel_rfl) rfl (fun K_ hK_ => ?_); go_simp; refine hK_.out _ _ (fun h => absurd rfl h) ?_; clear hK_ K_; (try simp only [Act.put, List.getElem_toArray, List.getElem_cons_succ, List.getElem_cons_zero, List.setIfInBounds_toArray, List.set_cons_zero, List.set_cons_succ]))
      refine wpZ_done (by kernel_rfl) ?_ _
      clear hz1 hz2
      obtain ⟨w9, hw8⟩ : ∃ x, x = (wr.setCell ⟨p5, k, none⟩ (.bool bp5)).drew := ⟨_, rfl⟩
      obtain ⟨cells_, hcells_⟩ := Kd.R_typed HS.out p5 (by simp [Value.ownBlock])
      have n1_ := Aside0.mk (Kd.R_drew (R_setb HK.out hcells_ (by decide) k (.bool bp5)))
      have n2_ := Aside0.mk (Kd.R_drew HST.out)
      have n3_ := Aside0.mk (Kd.R_drew (bool_far (g := p5) (i := k) (u := .bool bp5) HU.out (by intro e_; injection e_ with e_; exact NE56.out e_.symm)))
      have n4_ := Aside0.mk (blk_drew (blk_far (p := ⟨p5, k, none⟩) B3.out NE35.out (.bool bp5)))
      have n5_ := Aside0.mk (below_drew1 (show Below w.heap.size w (wr.setCell ⟨p5, k, none⟩ (.bool bp5)) from below_set HBL.out GE5.out))
      rw [← hw8] at n1_ n2_ n3_ n4_ n5_ ⊢
      clear hw8 hcells_ HK HS HU B3 HBL HST
      have HK := n1_
      have HS := n2_
      have HU := n3_
      have B3 := n4_
      have HBL := n5_
      clear n1_ n2_ n3_ n4_ n5_
      go_upto_region 10 with (fail)
      rcases Decidable.em (k < l1.length) with h1 | h1
      case' inl =>
       obtain ⟨bp6, hbp6⟩ : ∃ x, x = gu k := ⟨_, rfl⟩
       have hst0 := bool_put HU.out k hlt bp6
       rw [hbp6, mkL_set n k gu hlt, ← hbp6] at hst0
       obtain ⟨hst, hz1, hz2⟩ := hst0
       have HST := Aside0.mk hst
       clear hst
       have cl0 : decide ((k : Int) < (l1.length : Int)) = true := decide_eq_true (by omega)
       obtain ⟨ad, e1, hx⟩ := Kd.at_bool (Kd.C_below HR1.out HBL.out) (k : Int) (by omega) (by omega)
       rw [show rdOf false l1 (k : Int) = bp6 by rw [hbp6, HGU.out]; rfl] at hx
       simp only [Int.toNat_natCast] at hx
       subst e1
       have HX := Aside0.mk hx
       have HBp6 := Aside0.mk hbp6
       clear hx hbp6
       refine region_Z 14 (fun w' => w'.cell? ⟨g3, 4, none⟩ = some (.slice (some ⟨p6, 0, none⟩) n c6) ∧ w'.cell? (ad.add k) = some (.bool bp6)) (by kernel_rfl) ?_
       (refine wpZ_take (i := 0) (oi := _) (v := ?zv17) rfl (by kernel_rfl) (by kernel_rfl) (by kernel_rfl) (by kernel_rfl) (fun _ _ _ h => h) (Or.inl ⟨by rfl, ?zy17⟩) ?zS17 ?zr17; (case zy17 => (intro w_ hSw; (try dsimp only at hSw); go_simp; try (with_reducible rfl))); (case zS17 => exact ⟨(blk_cell B3.out 4).trans rfl, HX.out⟩); (try simp only [Act.put, List.getElem_toArray, List.getElem_cons_succ, List.getElem_cons_zero, List.setIfInBounds_toArray, List.set_cons_zero, List.set_cons_succ])); (refine wpZ_take (i := 1) (oi := _) (v := ?zv18) rfl (by kernel_rfl) (by kernel_rfl) (by kernel_rfl) (by kernel_rfl) (fun _ _ _ h => h) (Or.inl ⟨by rfl, ?zy18⟩) ?zS18 ?zr18; (case zy18 => (intro w_ hSw; (try dsimp only at hSw); go_simp; try (with_reducible rfl))); (case zS18 => exact ⟨(blk_cell B3.out 4).trans rfl, HX.out⟩); (try simp only [Act.put, List.getElem_toArray, List.getElem_cons_succ, List.getElem_cons_zero, List.setIfInBounds_toArray, List.set_cons_zero, List.set_cons_succ])); (refine wpZ_take (i := 2) (oi := _) (v := ?zv19) rfl (by kernel_rfl) (by kernel_rfl) (by kernel_rfl) (by kernel_rfl) (fun _ _ _ h => h) (Or.inl ⟨by rfl, ?zy19⟩) ?zS19 ?zr19; (case zy19 => (intro w_ hSw; (try dsimp only at hSw); go_simp; try (with_reducible rfl))); (case zS19 => exact ⟨(blk_cell B3.out 4).trans rfl, HX.out⟩); (try simp only [Act.put, List.getElem_toArray, List.getElem_cons_succ, List.getElem_cons_zero, List.setIfInBounds_toArray, List.set_cons_zero, List.set_cons_succ])); (refine wpZ_take (i := 3) (oi := _) (v := ?zv20) rfl (by kernel_rfl) (by kernel_rfl) (by kernel_rfl) (by kernel_rfl) (fun _ _ _ h => h) (Or.inl ⟨by rfl, ?zy20⟩) ?zS20 ?zr20; (case zy20 => (intro w_ hSw; (try dsimp only at hSw); go_simp; try (with_reducible rfl))); (case zS20 => exact ⟨(blk_cell B3.out 4).trans rfl, HX.out⟩); (try simp only [Act.put, List.getElem_toArray, List.getElem_cons_succ, List.getElem_cons_zero, List.setIfInBounds_toArray, List.set_cons_zero, List.set_cons_succ])); (refine wpZ_take (i := 4) (oi := _) (v := ?zv21) rfl (by kernel_rfl) (by kernel_rfl) (by kernel_rfl) (by kernel_rfl) (fun _ _ _ h => h) (Or.inl ⟨by rfl, ?zy21⟩) ?zS21 ?zr21; (case zy21 => (intro w_ hSw; (try dsimp only at hSw); go_simp; try (with_reducible rfl))); (case zS21 => exact ⟨(blk_cell B3.out 4).trans rfl, HX.out⟩); (try simp only [Act.put, List.getElem_toArray, List.getElem_cons_succ, List.getElem_cons_zero, List.setIfInBounds_toArray, List.set_cons_zero, List.set_cons_succ])); (refine wpZ_take (i := 5) (oi := _) (v := ?zv22) rfl (by kernel_rfl) (by kernel_rfl) (by kernel_rfl) (by kernel_rfl) (fun _ _ _ h => h) (Or.inl ⟨by rfl, ?zy22⟩) ?zS22 ?zr22; (case zy22 => (intro w_ hSw; (try dsimp only at hSw); go_simp; try (with_reducible rfl))); (case zS22 => exact ⟨(blk_cell B3.out 4).trans rfl, HX.out⟩); (try simp only [Act.put, List.getElem_toArray, List.getElem_cons_succ, List.getElem_cons_zero, List.setIfInBounds_toArray, List.set_cons_zero, List.set_cons_succ])); (refine wpZ_take (i := 6) (oi := _) (v := ?zv23) rfl (by kernel_rfl) (by kernel_rfl) (by kernel_rfl) (by kernel_rfl) (fun _ _ _ h => h) (Or.inl ⟨by rfl, ?zy23⟩) ?zS23 ?zr23; (case zy23 => (intro w_ hSw; (try dsimp only at hSw); go_simp; try (with_reducible rfl))); (case zS23 => exact ⟨(blk_cell B3.out 4).trans rfl, HX.out⟩); (try simp only [Act.put, List.getElem_toArray, List.getElem_cons_succ, List.getElem_cons_zero, List.setIfInBounds_toArray, List.set_cons_zero, List.set_cons_succ])); (refine wpZ_take (i := 7) (oi := _) (v := ?zv24) rfl (by kernel_rfl) (by kernel_rfl) (by kernel_rfl) (by kernel_rfl) (fun _ _ _ h => h) (Or.inl ⟨by rfl, ?zy24⟩) ?zS24 ?zr24; (case zy24 => (intro w_ hSw; (try dsimp only at hSw); go_simp; try (with_reducible rfl))); (case zS24 => exact ⟨(blk_cell B3.out 4).trans rfl, HX.out⟩); (try simp only [Act.put, List.getElem_toArray, List.getElem_cons_succ, List.getElem_cons_zero, List.setIfInBounds_toArray, List.set_cons_zero, List.set_cons_succ])); (refine wpZ_take (i := 8) (oi := _) (v := ?zv25) rfl (by kernel_rfl) (by kernel_rfl) (by kernel_rfl) (by kernel_rfl) (fun _ _ _ h => h) (Or.inl ⟨by rfl, ?zy25⟩) ?zS25 ?zr25; (case zy25 => (intro w_ hSw; (try dsimp only at hSw); go_simp; try (with_reducible rfl))); (case zS25 => exact ⟨(blk_cell B3.out 4).trans rfl, HX.out⟩); (try simp only [Act.put, List.getElem_toArray, List.getElem_cons_succ, List.getElem_cons_zero, List.setIfInBounds_toArray, List.set_cons_zero, List.set_cons_succ])); (refine wpZ_take (i := 9) (oi := _) (v := ?zv26) rfl (by kernel_rfl) (by kernel_rfl) (by kernel_rfl) (by kernel_rfl) (fun _ _ _ h => h) (Or.inl ⟨by rfl, ?zy26⟩) ?zS26 ?zr26; (case zy26 => (intro w_ hSw; (try dsimp only at hSw); go_simp; try (with_reducible rfl))); (case zS26 => exact ⟨(blk_cell B3.out 4).trans rfl, HX.out⟩); (try simp only [Act.put, List.getElem_toArray, List.getElem_cons_succ, List.getElem_cons_zero, List.setIfInBounds_toArray, List.set_cons_zero, List.set_cons_succ])); (refine wpZ_take (i := 10) (oi := _) (v := ?zv27) rfl (by kernel_rfl) (by kernel_rfl) (by kernel_rfl) (by kernel_rfl) (fun _ _ _ h => h) (Or.inl ⟨by rfl, ?zy27⟩) ?zS27 ?zr27; (case zy27 => (intro w_ hSw; (try dsimp only at hSw); go_simp; try (with_reducible rfl))); (case zS27 => exact ⟨(blk_cell B3.out 4).trans rfl, HX.out⟩); (try simp only [Act.put, List.getElem_toArray, List.getElem_cons_succ, List.getElem_cons_zero, List.setIfInBounds_toArray, List.set_cons_zero, List.set_cons_succ])); (refine wpZ_take (i := 11) (oi := _) (v := ?zv28) rfl (by kernel_rfl) (by kernel_rfl) (by kernel_rfl) (by kernel_rfl) (fun _ _ _ h => h) (Or.inl ⟨by rfl, ?zy28⟩) ?zS28 ?zr28; (case zy28 => (intro w_ hSw; (try dsimp only at hSw); go_simp; try (with_reducible rfl))); (case zS28 => exact ⟨(blk_cell B3.out 4).trans rfl, HX.out⟩); (try simp only [Act.put, List.getElem_toArray, List.getElem_cons_succ, List.getElem_cons_zero, List.setIfInBounds_toArray, List.set_cons_zero, List.set_cons_succ])); (refine wpZ_take (i := 12) (oi := _) (v := ?zv29) rfl (by kernel_rfl) (by kernel_rfl) (by kernel_rfl) (by kernel_rfl) (fun _ _ _ h => h) (Or.inl ⟨by rfl, ?zy29⟩) ?zS29 ?zr29; (case zy29 => (intro w_ hSw; (try dsimp only at hSw); go_simp; try (with_reducible rfl))); (case zS29 => exact ⟨(blk_cell B3.out 4).trans rfl, HX.out⟩); (try simp only [Act.put, List.getElem_toArray, List.getElem_cons_succ, List.getElem_cons_zero, List.setIfInBounds_toArray, List.set_cons_zero, List.set_cons_succ]))
       clear cl0
       (refine wpZ_one (i := 13) (by kernel_rfl) rfl (fun K_ hK_ => ?_); go_simp; refine hK_.out _ _ (fun _ => ⟨(blk_cell B3.out 4).trans rfl, HX.out⟩) ?_; clear hK_ K_; (try simp only [Act.put, List.getElem_toArray, List.getElem_cons_succ, List.getElem_cons_zero, List.setIfInBounds_toArray, List.set_cons_zero, List.set_cons_succ]))
       (refine wpZ_one (i := 14) (by kernel_rfl) rfl (fun K_ hK_ => ?_); go_simp; refine hK_.out _ _ (fun h => absurd rfl h) ?_; clear hK_ K_; (try simp only [Act.put, List.getElem_toArray, List.getElem_cons_succ, List.getElem_cons_zero, List.setIfInBounds_toArray, List.set_cons_zero, List.set_cons_succ]))
       refine wpZ_done (by kernel_rfl) ?_ _
       clear hz1 hz2
       obtain ⟨w10, hw8⟩ : ∃ x, x = (w9.setCell ⟨p6, k, none⟩ (.bool bp6)).drew := ⟨_, rfl⟩
       obtain ⟨cells_, hcells_⟩ := Kd.R_typed HU.out p6 (by simp [Value.ownBlock])
       have n1_ := Aside0.mk (Kd.R_drew (R_setb HK.out hcells_ (by decide) k (.bool bp6)))
       have n2_ := Aside0.mk (Kd.R_drew HST.out)
       have n3_ := Aside0.mk (Kd.R_drew (bool_far (g := p6) (i := k) (u := .bool bp6) HS.out (by intro e_; injection e_ with e_; exact NE56.out e_)))
       have n4_ := Aside0.mk (blk_drew (blk_far (p := ⟨p6, k, none⟩) B3.out NE36.out (.bool bp6)))
       have n5_ := Aside0.mk (below_drew1 (show Below w.heap.size w (w9.setCell ⟨p6, k, none⟩ (.bool bp6)) from below_set HBL.out GE6.out))
       rw [← hw8] at n1_ n2_ n3_ n4_ n5_ ⊢
       clear hw8 hcells_ HK HU HS B3 HBL HST
       have HK := n1_
       have HU := n2_
       have HS := n3_
       have B3 := n4_
       have HBL := n5_
       clear n1_ n2_ n3_ n4_ n5_
      case' inr =>
       obtain ⟨bp6, hbp6⟩ : ∃ x, x = gu k := ⟨_, rfl⟩
       have hst0 := bool_put HU.out k hlt bp6
       rw [hbp6, mkL_set n k gu hlt, ← hbp6] at hst0
       obtain ⟨hst, hz1, hz2⟩ := hst0
       have HST := Aside0.mk hst
       clear hst
       have cl0 : decide ((k : Int) < (l1.length : Int)) = false := decide_eq_false (by omega)
       have hbf : bp6 = false := by rw [hbp6, HGU.out]; show rdOf false l1 (k : Int) = false; unfold rdOf; rw [Int.toNat_natCast, List.getD_eq_getElem?_getD, List.getElem?_eq_none (by omega)]; rfl
       have HBp6 := Aside0.mk hbp6
       clear hbp6
       refine region_Z 14 (fun w' => w'.cell? ⟨g3, 4, none⟩ = some (.slice (some ⟨p6, 0, none⟩) n c6)) (by kernel_rfl) ?_
       (refine wpZ_take (i := 0) (oi := _) (v := ?zv30) rfl (by kernel_rfl) (by kernel_rfl) (by kernel_rfl) (by kernel_rfl) (fun _ _ _ h => h) (Or.inl ⟨by rfl, ?zy30⟩) ?zS30 ?zr30; (case zy30 => (intro w_ hSw; (try dsimp only at hSw); go_simp; try (with_reducible rfl))); (case zS30 => exact (blk_cell B3.out 4).trans rfl); (try simp only [Act.put, List.getElem_toArray, List.getElem_cons_succ, List.getElem_cons_zero, List.setIfInBounds_toArray, List.set_cons_zero, List.set_cons_succ])); (refine wpZ_take (i := 1) (oi := _) (v := ?zv31) rfl (by kernel_rfl) (by kernel_rfl) (by kernel_rfl) (by kernel_rfl) (fun _ _ _ h => h) (Or.inl ⟨by rfl, ?zy31⟩) ?zS31 ?zr31; (case zy31 => (intro w_ hSw; (try dsimp only at hSw); go_simp; try (with_reducible rfl))); (case zS31 => exact (blk_cell B3.out 4).trans rfl); (try simp only [Act.put, List.getElem_toArray, List.getElem_cons_succ, List.getElem_cons_zero, List.setIfInBounds_toArray, List.set_cons_zero, List.set_cons_succ])); (refine wpZ_take (i := 2) (oi := _) (v := ?zv32) rfl (by kernel_rfl) (by kernel_rfl) (by kernel_rfl) (by kernel_rfl) (fun _ _ _ h => h) (Or.inl ⟨by rfl, ?zy32⟩) ?zS32 ?zr32; (case zy32 => (intro w_ hSw; (try dsimp only at hSw); go_simp; try (with_reducible rfl))); (case zS32 => exact (blk_cell B3.out 4).trans rfl); (try simp only [Act.put, List.getElem_toArray, List.getElem_cons_succ, List.getElem_cons_zero, List.setIfInBounds_toArray, List.set_cons_zero, List.set_cons_succ])); (refine wpZ_take (i := 3) (oi := _) (v := ?zv33) rfl (by kernel_rfl) (by kernel_rfl) (by kernel_rfl) (by kernel_rfl) (fun _ _ _ h => h) (Or.inl ⟨by rfl, ?zy33⟩) ?zS33 ?zr33; (case zy33 => (intro w_ hSw; (try dsimp only at hSw); go_simp; try (with_reducible rfl))); (case zS33 => exact (blk_cell B3.out 4).trans rfl); (try simp only [Act.put, List.getElem_toArray, List.getElem_cons_succ, List.getElem_cons_zero, List.setIfInBounds_toArray, List.set_cons_zero, List.set_cons_succ])); (refine wpZ_take (i := 4) (oi := _) (v := ?zv34) rfl (by kernel_rfl) (by kernel_rfl) (by kernel_rfl) (by kernel_rfl) (fun _ _ _ h => h) (Or.inl ⟨by rfl, ?zy34⟩) ?zS34 ?zr34; (case zy34 => (intro w_ hSw; (try dsimp only at hSw); go_simp; try (with_reducible rfl))); (case zS34 => exact (blk_cell B3.out 4).trans rfl); (try simp only [Act.put, List.getElem_toArray, List.getElem_cons_succ, List.getElem_cons_zero, List.setIfInBounds_toArray, List.set_cons_zero, List.set_cons_succ])); (refine wpZ_take (i := 5) (oi := _) (v := ?zv35) rfl (by kernel_rfl) (by kernel_rfl) (by kernel_rfl) (by kernel_rfl) (fun _ _ _ h => h) (Or.inl ⟨by rfl, ?zy35⟩) ?zS35 ?zr35; (case zy35 => (intro w_ hSw; (try dsimp only at hSw); go_simp; try (with_reducible rfl))); (case zS35 => exact (blk_cell B3.out 4).trans rfl); (try simp only [Act.put, List.getElem_toArray, List.getElem_cons_succ, List.getElem_cons_zero, List.setIfInBounds_toArray, List.set_cons_zero, List.set_cons_succ])); (refine wpZ_take (i := 6) (oi := _) (v := ?zv36) rfl (by kernel_rfl) (by kernel_rfl) (by kernel_rfl) (by kernel_rfl) (fun _ _ _ h => h) (Or.inl ⟨by rfl, ?zy36⟩) ?zS36 ?zr36; (case zy36 => (intro w_ hSw; (try dsimp only at hSw); go_simp; try (with_reducible rfl))); (case zS36 => exact (blk_cell B3.out 4).trans rfl); (try simp only [Act.put, List.getElem_toArray, List.getElem_cons_succ, List.getElem_cons_zero, List.setIfInBounds_toArray, List.set_cons_zero, List.set_cons_succ])); (refine wpZ_take (i := 7) (oi := _) (v := ?zv37) rfl (by kernel_rfl) (by kernel_rfl) (by kernel_rfl) (by kernel_rfl) (fun _ _ _ h => h) (Or.inl ⟨by rfl, ?zy37⟩) ?zS37 ?zr37; (case zy37 => (intro w_ hSw; (try dsimp only at hSw); go_simp; try (with_reducible rfl))); (case zS37 => exact (blk_cell B3.out 4).trans rfl); (try simp only [Act.put, List.getElem_toArray, List.getElem_cons_succ, List.getElem_cons_zero, List.setIfInBounds_toArray, List.set_cons_zero, List.set_cons_succ]))
       (refine wpZ_take (i := 8) (oi := _) (v := undef) rfl (by kernel_rfl) (by kernel_rfl) (by kernel_rfl) (by kernel_rfl) (fun _ _ _ h => h) (Or.inr ⟨by rfl, rfl⟩) ?zSn1 ?zrn1; (case zSn1 => exact (blk_cell B3.out 4).trans rfl); (try simp only [Act.put, List.getElem_toArray, List.getElem_cons_succ, List.getElem_cons_zero, List.setIfInBounds_toArray, List.set_cons_zero, List.set_cons_succ])); (refine wpZ_take (i := 9) (oi := _) (v := undef) rfl (by kernel_rfl) (by kernel_rfl) (by kernel_rfl) (by kernel_rfl) (fun _ _ _ h => h) (Or.inr ⟨by rfl, rfl⟩) ?zSn2 ?zrn2; (case zSn2 => exact (blk_cell B3.out 4).trans rfl); (try simp only [Act.put, List.getElem_toArray, List.getElem_cons_succ, List.getElem_cons_zero, List.setIfInBounds_toArray, List.set_cons_zero, List.set_cons_succ])); (refine wpZ_take (i := 10) (oi := _) (v := undef) rfl (by kernel_rfl) (by kernel_rfl) (by kernel_rfl) (by kernel_rfl) (fun _ _ _ h => h) (Or.inr ⟨by rfl, rfl⟩) ?zSn3 ?zrn3; (case zSn3 => exact (blk_cell B3.out 4).trans rfl); (try simp only [Act.put, List.getElem_toArray, List.getElem_cons_succ, List.getElem_cons_zero, List.setIfInBounds_toArray, List.set_cons_zero, List.set_cons_succ])); (refine wpZ_take (i := 11) (oi := _) (v := undef) rfl (by kernel_rfl) (by kernel_rfl) (by kernel_rfl) (by kernel_rfl) (fun _ _ _ h => h) (Or.inr ⟨by rfl, rfl⟩) ?zSn4 ?zrn4; (case zSn4 => exact (blk_cell B3.out 4).trans rfl); (try simp only [Act.put, List.getElem_toArray, List.getElem_cons_succ, List.getElem_cons_zero, List.setIfInBounds_toArray, List.set_cons_zero, List.set_cons_succ]))
       (refine wpZ_take (i := 12) (oi := _) (v := ?zv38) rfl (by kernel_rfl) (by kernel_rfl) (by kernel_rfl) (by kernel_rfl) (fun _ _ _ h => h) (Or.inl ⟨by rfl, ?zy38⟩) ?zS38 ?zr38; (case zy38 => (intro w_ hSw; (try dsimp only at hSw); go_simp; try (with_reducible rfl))); (case zS38 => exact (blk_cell B3.out 4).trans rfl); (try simp only [Act.put, List.getElem_toArray, List.getElem_cons_succ, List.getElem_cons_zero, List.setIfInBounds_toArray, List.set_cons_zero, List.set_cons_succ]))
       clear cl0
       (refine wpZ_one (i := 13) (by kernel_rfl) rfl (fun K_ hK_ => ?_); go_simp; refine hK_.out _ _ (fun _ => (blk_cell B3.out 4).trans rfl) ?_; clear hK_ K_; (try simp only [Act.put, List.getElem_toArray, List.getElem_cons_succ, List.getElem_cons_zero, List.setIfInBounds_toArray, List.set_cons_zero, List.set_cons_succ]))
       subst hbf
       (refine wpZ_one (i := 14) (by kernel_rfl) rfl (fun K_ hK_ => ?_); go_simp; refine hK_.out _ _ (fun h => absurd rfl h) ?_; clear hK_ K_; (try simp only [Act.put, List.getElem_toArray, List.getElem_cons_succ, List.getElem_cons_zero, List.setIfInBounds_toArray, List.set_cons_zero, List.set_cons_succ]))
       refine wpZ_done (by kernel_rfl) ?_ _
       clear hz1 hz2
       obtain ⟨w10, hw8⟩ : ∃ x, x = (w9.setCell ⟨p6, k, none⟩ (.bool false)).drew := ⟨_, rfl⟩
       obtain ⟨cells_, hcells_⟩ := Kd.R_typed HU.out p6 (by simp [Value.ownBlock])
       have n1_ := Aside0.mk (Kd.R_drew (R_setb HK.out hcells_ (by decide) k (.bool false)))
       have n2_ := Aside0.mk (Kd.R_drew HST.out)
       have n3_ := Aside0.mk (Kd.R_drew (bool_far (g := p6) (i := k) (u := .bool false) HS.out (by intro e_; injection e_ with e_; exact NE56.out e_)))
       have n4_ := Aside0.mk (blk_drew (blk_far (p := ⟨p6, k, none⟩) B3.out NE36.out (.bool false)))
       have n5_ := Aside0.mk (below_drew1 (show Below w.heap.size w (w9.setCell ⟨p6, k, none⟩ (.bool false)) from below_set HBL.out GE6.out))
       rw [← hw8] at n1_ n2_ n3_ n4_ n5_ ⊢
       clear hw8 hcells_ HK HU HS B3 HBL HST
       have HK := n1_
       have HU := n2_
       have HS := n3_
       have B3 := n4_
       have HBL := n5_
       clear n1_ n2_ n3_ n4_ n5_
     case' neg =>
      obtain ⟨bp5, hbp5⟩ : ∃ x, x = gs k := ⟨_, rfl⟩
      have hst0 := bool_put HS.out k hlt bp5
      rw [hbp5, mkL_set n k gs hlt, ← hbp5] at hst0
      obtain ⟨hst, hz1, hz2⟩ := hst0
      have HST := Aside0.mk hst
      clear hst
      have cl0 : decide ((k : Int) < (l0.length : Int)) = false := decide_eq_false (by omega)
      have hbf : bp5 = false := by rw [hbp5, HGS.out]; show rdOf false l0 (k : Int) = false; unfold rdOf; rw [Int.toNat_natCast, List.getD_eq_getElem?_getD, List.getElem?_eq_none (by omega)]; rfl
      have HBp5 := Aside0.mk hbp5
      clear hbp5
      refine region_Z 14 (fun w' => w'.cell? ⟨g3, 3, none⟩ = some (.slice (some ⟨p5, 0, none⟩) n c5)) (by kernel_rfl) ?_
      (refine wpZ_take (i := 0) (oi := _) (v := ?zv39) rfl (by kernel_rfl) (by kernel_rfl) (by kernel_rfl) (by kernel_rfl) (fun _ _ _ h => h) (Or.inl ⟨by rfl, ?zy39⟩) ?zS39 ?zr39; (case zy39 => (intro w_ hSw; (try dsimp only at hSw); go_simp; try (with_reducible rfl))); (case zS39 => exact (blk_cell B3.out 3).trans rfl); (try simp only [Act.put, List.getElem_toArray, List.getElem_cons_succ, List.getElem_cons_zero, List.setIfInBounds_toArray, List.set_cons_zero, List.set_cons_succ])); (refine wpZ_take (i := 1) (oi := _) (v := ?zv40) rfl (by kernel_rfl) (by kernel_rfl) (by kernel_rfl) (by kernel_rfl) (fun _ _ _ h => h) (Or.inl ⟨by rfl, ?zy40⟩) ?zS40 ?zr40; (case zy40 => (intro w_ hSw; (try dsimp only at hSw); go_simp; try (with_reducible rfl))); (case zS40 => exact (blk_cell B3.out 3).trans rfl); (try simp only [Act.put, List.getElem_toArray, List.getElem_cons_succ, List.getElem_cons_zero, List.setIfInBounds_toArray, List.set_cons_zero, List.set_cons_succ])); (refine wpZ_take (i := 2) (oi := _) (v := ?zv41) rfl (by kernel_rfl) (by kernel_rfl) (by kernel_rfl) (by kernel_rfl) (fun _ _ _ h => h) (Or.inl ⟨by rfl, ?zy41⟩) ?zS41 ?zr41; (case zy41 => (intro w_ hSw; (try dsimp only at hSw); go_simp; try (with_reducible rfl))); (case zS41 => exact (blk_cell B3.out 3).trans rfl); (try simp only [Act.put, List.getElem_toArray, List.getElem_cons_succ, List.getElem_cons_zero, List.setIfInBounds_toArray, List.set_cons_zero, List.set_cons_succ])); (refine wpZ_take (i := 3) (oi := _) (v := ?zv42) rfl (by kernel_rfl) (by kernel_rfl) (by kernel_rfl) (by kernel_rfl) (fun _ _ _ h => h) (Or.inl ⟨by rfl, ?zy42⟩) ?zS42 ?zr42; (case zy42 => (intro w_ hSw; (try dsimp only at hSw); go_simp; try (with_reducible rfl))); (case zS42 => exact (blk_cell B3.out 3).trans rfl); (try simp only [Act.put, List.getElem_toArray, List.getElem_cons_succ, List.getElem_cons_zero, List.setIfInBounds_toArray, List.set_cons_zero, List.set_cons_succ])); (refine wpZ_take (i := 4) (oi := _) (v := ?zv43) rfl (by kernel_rfl) (by kernel_rfl) (by kernel_rfl) (by kernel_rfl) (fun _ _ _ h => h) (Or.inl ⟨by rfl, ?zy43⟩) ?zS43 ?zr43; (case zy43 => (intro w_ hSw; (try dsimp only at hSw); go_simp; try (with_reducible rfl))); (case zS43 => exact (blk_cell B3.out 3).trans rfl); (try simp only [Act.put, List.getElem_toArray, List.getElem_cons_succ, List.getElem_cons_zero, List.setIfInBounds_toArray, List.set_cons_zero, List.set_cons_succ])); (refine wpZ_take (i := 5) (oi := _) (v := ?zv44) rfl (by kernel_rfl) (by kernel_rfl) (by kernel_rfl) (by kernel_rfl) (fun _ _ _ h => h) (Or.inl ⟨by rfl, ?zy44⟩) ?zS44 ?zr44; (case zy44 => (intro w_ hSw; (try dsimp only at hSw); go_simp; try (with_reducible rfl))); (case zS44 => exact (blk_cell B3.out 3).trans rfl); (try simp only [Act.put, List.getElem_toArray, List.getElem_cons_succ, List.getElem_cons_zero, List.setIfInBounds_toArray, List.set_cons_zero, List.set_cons_succ])); (refine wpZ_take (i := 6) (oi := _) (v := ?zv45) rfl (by kernel_rfl) (by kernel_rfl) (by kernel_rfl) (by kernel_rfl) (fun _ _ _ h => h) (Or.inl ⟨by rfl, ?zy45⟩) ?zS45 ?zr45; (case zy45 => (intro w_ hSw; (try dsimp only at hSw); go_simp; try (with_reducible rfl))); (case zS45 => exact (blk_cell B3.out 3).trans rfl); (try simp only [Act.put, List.getElem_toArray, List.getElem_cons_succ, List.getElem_cons_zero, List.setIfInBounds_toArray, List.set_cons_zero, List.set_cons_succ])); (refine wpZ_take (i := 7) (oi := _) (v := ?zv46) rfl (by kernel_rfl) (by kernel_rfl) (by kernel_rfl) (by kernel_rfl) (fun _ _ _ h => h) (Or.inl ⟨by rfl, ?zy46⟩) ?zS46 ?zr46; (case zy46 => (intro w_ hSw; (try dsimp only at hSw); go_simp; try (with_reducible rfl))); (case zS46 => exact (blk_cell B3.out 3).trans rfl); (try simp only [Act.put, List.getElem_toArray, List.getElem_cons_succ, List.getElem_cons_zero, List.setIfInBounds_toArray, List.set_cons_zero, List.set_cons_succ]))
      (refine wpZ_take (i := 8) (oi := _) (v := undef) rfl (by kernel_rfl) (by kernel_rfl) (by kernel_rfl) (by kernel_rfl) (fun _ _ _ h => h) (Or.inr ⟨by rfl, rfl⟩) ?zSn5 ?zrn5; (case zSn5 => exact (blk_cell B3.out 3).trans rfl); (try simp only [Act.put, List.getElem_toArray, List.getElem_cons_succ, List.getElem_cons_zero, List.setIfInBounds_toArray, List.set_cons_zero, List.set_cons_succ])); (refine wpZ_take (i := 9) (oi := _) (v := undef) rfl (by kernel_rfl) (by kernel_rfl) (by kernel_rfl) (by kernel_rfl) (fun _ _ _ h => h) (Or.inr ⟨by rfl, rfl⟩) ?zSn6 ?zrn6; (case zSn6 => exact (blk_cell B3.out 3).trans rfl); (try simp only [Act.put, List.getElem_toArray, List.getElem_cons_succ, List.getElem_cons_zero, List.setIfInBounds_toArray, List.set_cons_zero, List.set_cons_succ])); (refine wpZ_take (i := 10) (oi := _) (v := undef) rfl (by kernel_rfl) (by kernel_rfl) (by kernel_rfl) (by kernel_rfl) (fun _ _ _ h => h) (Or.inr ⟨by rfl, rfl⟩) ?zSn7 ?zrn7; (case zSn7 => exact (blk_cell B3.out 3).trans rfl); (try simp only [Act.put, List.getElem_toArray, List.getElem_cons_succ, List.getElem_cons_zero, List.setIfInBounds_toArray, List.set_cons_zero, List.set_cons_succ])); (refine wpZ_take (i := 11) (oi := _) (v := undef) rfl (by kernel_rfl) (by kernel_rfl) (by kernel_rfl) (by kernel_rfl) (fun _ _ _ h => h) (Or.inr ⟨by rfl, rfl⟩) ?zSn8 ?zrn8; (case zSn8 => exact (blk_cell B3.out 3).trans rfl); (try simp only [Act.put, List.getElem_toArray, List.getElem_cons_succ, List.getElem_cons_zero, List.setIfInBounds_toArray, List.set_cons_zero, List.set_cons_succ]))
      (refine wpZ_take (i := 12) (oi := _) (v := ?zv47) rfl (by kernel_rfl) (by kernel_rfl) (by kernel_rfl) (by kernel_rfl) (fun _ _ _ h => h) (Or.inl ⟨by rfl, ?zy47⟩) ?zS47 ?zr47; (case zy47 => (intro w_ hSw; (try dsimp only at hSw); go_simp; try (with_reducible rfl))); (case zS47 => exact (blk_cell B3.out 3).trans rfl); (try simp only [Act.put, List.getElem_toArray, List.getElem_cons_succ, List.getElem_cons_zero, List.setIfInBounds_toArray, List.set_cons_zero, List.set_cons_succ]))
      clear cl0
      (refine wpZ_one (i := 13) (by kernel_rfl) rfl (fun K_ hK_ => ?_); go_simp; refine hK_.out _ _ (fun _ => (blk_cell B3.out 3).trans rfl) ?_; clear hK_ K_; (try simp only [Act.put, List.getElem_toArray, List.getElem_cons_succ, List.getElem_cons_zero, List.setIfInBounds_toArray, List.set_cons_zero, List.set_cons_succ]))
      subst hbf
      (refine wpZ_one (i := 14) (by kernel_rfl) rfl (fun K_ hK_ => ?_); go_simp; refine hK_.out _ _ (fun h => absurd rfl h) ?_; clear hK_ K_; (try simp only [Act.put, List.getElem_toArray, List.getElem_cons_succ, List.getElem_cons_zero, List.setIfInBounds_toArray, List.set_cons_zero, List.set_cons_succ]))
      refine wpZ_done (by kernel_rfl) ?_ _
      clear hz1 hz2
      obtain ⟨w9, hw8⟩ : ∃ x, x = (wr.setCell ⟨p5, k, none⟩ (.bool false)).drew := ⟨_, rfl⟩
      obtain ⟨cells_, hcells_⟩ := Kd.R_typed HS.out p5 (by simp [Value.ownBlock])
      have n1_ := Aside0.mk (Kd.R_drew (R_setb HK.out hcells_ (by decide) k (.bool false)))
      have n2_ := Aside0.mk (Kd.R_drew HST.out)
      have n3_ := Aside0.mk (Kd.R_drew (bool_far (g := p5) (i := k) (u := .bool false) HU.out (by intro e_; injection e_ with e_; exact NE56.out e_.symm)))
      have n4_ := Aside0.mk (blk_drew (blk_far (p := ⟨p5, k, none⟩) B3.out NE35.out (.bool false)))
      have n5_ := Aside0.mk (below_drew1 (show Below w.heap.size w (wr.setCell ⟨p5, k, none⟩ (.bool false)) from below_set HBL.out GE5.out))
      rw [← hw8] at n1_ n2_ n3_ n4_ n5_ ⊢
      clear hw8 hcells_ HK HS HU B3 HBL HST
      have HK := n1_
      have HS := n2_
      have HU := n3_
      have B3 := n4_
      have HBL := n5_
      clear n1_ n2_ n3_ n4_ n5_
      go_upto_region 10 with (fail)
      rcases Decidable.em (k < l1.length) with h1 | h1
      case' inl =>
       obtain ⟨bp6, hbp6⟩ : ∃ x, x = gu k := ⟨_, rfl⟩
       have hst0 := bool_put HU.out k hlt bp6
       rw [hbp6, mkL_set n k gu hlt, ← hbp6] at hst0
       obtain ⟨hst, hz1, hz2⟩ := hst0
       have HST := Aside0.mk hst
       clear hst
       have cl0 : decide ((k : Int) < (l1.length : Int)) = true := decide_eq_true (by omega)
       obtain ⟨ad, e1, hx⟩ := Kd.at_bool (Kd.C_below HR1.out HBL.out) (k : Int) (by omega) (by omega)
       rw [show rdOf false l1 (k : Int) = bp6 by rw [hbp6, HGU.out]; rfl] at hx
       simp only [Int.toNat_natCast] at hx
       subst e1
       have HX := Aside0.mk hx
       have HBp6 := Aside0.mk hbp6
       clear hx hbp6
       refine region_Z 14 (fun w' => w'.cell? ⟨g3, 4, none⟩ = some (.slice (some ⟨p6, 0, none⟩) n c6) ∧ w'.cell? (ad.add k) = some (.bool bp6)) (by kernel_rfl) ?_
       (refine wpZ_take (i := 0) (oi := _) (v := ?zv48) rfl (by kernel_rfl) (by kernel_rfl) (by kernel_rfl) (by kernel_rfl) (fun _ _ _ h => h) (Or.inl ⟨by rfl, ?zy48⟩) ?zS48 ?zr48; (case zy48 => (intro w_ hSw; (try dsimp only at hSw); go_simp; try (with_reducible rfl))); (case zS48 => exact ⟨(blk_cell B3.out 4).trans rfl, HX.out⟩); (try simp only [Act.put, List.getElem_toArray, List.getElem_cons_succ, List.getElem_cons_zero, List.setIfInBounds_toArray, List.set_cons_zero, List.set_cons_succ])); (refine wpZ_take (i := 1) (oi := _) (v := ?zv49) rfl (by kernel_rfl) (by kernel_rfl) (by kernel_rfl) (by kernel_rfl) (fun _ _ _ h => h) (Or.inl ⟨by rfl, ?zy49⟩) ?zS49 ?zr49; (case zy49 => (intro w_ hSw; (try dsimp only at hSw); go_simp; try (with_reducible rfl))); (case zS49 => exact ⟨(blk_cell B3.out 4).trans rfl, HX.out⟩); (try simp only [Act.put, List.getElem_toArray, List.getElem_cons_succ, List.getElem_cons_zero, List.setIfInBounds_toArray, List.set_cons_zero, List.set_cons_succ])); (refine wpZ_take (i := 2) (oi := _) (v := ?zv50) rfl (by kernel_rfl) (by kernel_rfl) (by kernel_rfl) (by kernel_rfl) (fun _ _ _ h => h) (Or.inl ⟨by rfl, ?zy50⟩) ?zS50 ?zr50; (case zy50 => (intro w_ hSw; (try dsimp only at hSw); go_simp; try (with_reducible rfl))); (case zS50 => exact ⟨(blk_cell B3.out 4).trans rfl, HX.out⟩); (try simp only [Act.put, List.getElem_toArray, List.getElem_cons_succ, List.getElem_cons_zero, List.setIfInBounds_toArray, List.set_cons_zero, List.set_cons_succ])); (refine wpZ_take (i := 3) (oi := _) (v := ?zv51) rfl (by kernel_rfl) (by kernel_rfl) (by kernel_rfl) (by kernel_rfl) (fun _ _ _ h => h) (Or.inl ⟨by rfl, ?zy51⟩) ?zS51 ?zr51; (case zy51 => (intro w_ hSw; (try dsimp only at hSw); go_simp; try (with_reducible rfl))); (case zS51 => exact ⟨(blk_cell B3.out 4).trans rfl, HX.out⟩); (try simp only [Act.put, List.getElem_toArray, List.getElem_cons_succ, List.getElem_cons_zero, List.setIfInBounds_toArray, List.set_cons_zero, List.set_cons_succ])); (refine wpZ_take (i := 4) (oi := _) (v := ?zv52) rfl (by kernel_rfl) (by kernel_rfl) (by kernel_rfl) (by kernel_rfl) (fun _ _ _ h => h) (Or.inl ⟨by rfl, ?zy52⟩) ?zS52 ?zr52; (case zy52 => (intro w_ hSw; (try dsimp only at hSw); go_simp; try (with_reducible rfl))); (case zS52 => exact ⟨(blk_cell B3.out 4).trans rfl, HX.out⟩); (try simp only [Act.put, List.getElem_toArray, List.getElem_cons_succ, List.getElem_cons_zero, List.setIfInBounds_toArray, List.set_cons_zero, List.set_cons_succ])); (refine wpZ_take (i := 5) (oi := _) (v := ?zv53) rfl (by kernel_rfl) (by kernel_rfl) (by kernel_rfl) (by kernel_rfl) (fun _ _ _ h => h) (Or.inl ⟨by rfl, ?zy53⟩) ?zS53 ?zr53; (case zy53 => (intro w_ hSw; (try dsimp only at hSw); go_simp; try (with_reducible rfl))); (case zS53 => exact ⟨(blk_cell B3.out 4).trans rfl, HX.out⟩); (try simp only [Act.put, List.getElem_toArray, List.getElem_cons_succ, List.getElem_cons_zero, List.setIfInBounds_toArray, List.set_cons_zero, List.set_cons_succ])); (refine wpZ_take (i := 6) (oi := _) (v := ?zv54) rfl (by kernel_rfl) (by kernel_rfl) (by kernel_rfl) (by kernel_rfl) (fun _ _ _ h => h) (Or.inl ⟨by rfl, ?zy54⟩) ?zS54 ?zr54; (case zy54 => (intro w_ hSw; (try dsimp only at hSw); go_simp; try (with_reducible rfl))); (case zS54 => exact ⟨(blk_cell B3.out 4).trans rfl, HX.out⟩); (try simp only [Act.put, List.getElem_toArray, List.getElem_cons_succ, List.getElem_cons_zero, List.setIfInBounds_toArray, List.set_cons_zero, List.set_cons_succ])); (refine wpZ_take (i := 7) (oi := _) (v := ?zv55) rfl (by kernel_rfl) (by kernel_rfl) (by kernel_rfl) (by kernel_rfl) (fun _ _ _ h => h) (Or.inl ⟨by rfl, ?zy55⟩) ?zS55 ?zr55; (case zy55 => (intro w_ hSw; (try dsimp only at hSw); go_simp; try (with_reducible rfl))); (case zS55 => exact ⟨(blk_cell B3.out 4).trans rfl, HX.out⟩); (try simp only [Act.put, List.getElem_toArray, List.getElem_cons_succ, List.getElem_cons_zero, List.setIfInBounds_toArray, List.set_cons_zero, List.set_cons_succ])); (refine wpZ_take (i := 8) (oi := _) (v := ?zv56) rfl (by kernel_rfl) (by kernel_rfl) (by kernel_rfl) (by kernel_rfl) (fun _ _ _ h => h) (Or.inl ⟨by rfl, ?zy56⟩) ?zS56 ?zr56; (case zy56 => (intro w_ hSw; (try dsimp only at hSw); go_simp; try (with_reducible rfl))); (case zS56 => exact ⟨(blk_cell B3.out 4).trans rfl, HX.out⟩); (try simp only [Act.put, List.getElem_toArray, List.getElem_cons_succ, List.getElem_cons_zero, List.setIfInBounds_toArray, List.set_cons_zero, List.set_cons_succ])); (refine wpZ_take (i := 9) (oi := _) (v := ?zv57) rfl (by kernel_rfl) (by kernel_rfl) (by kernel_rfl) (by kernel_rfl) (fun _ _ _ h => h) (Or.inl ⟨by rfl, ?zy57⟩) ?zS57 ?zr57; (case zy57 => (intro w_ hSw; (try dsimp only at hSw); go_simp; try (with_reducible rfl))); (case zS57 => exact ⟨(blk_cell B3.out 4).trans rfl, HX.out⟩); (try simp only [Act.put, List.getElem_toArray, List.getElem_cons_succ, List.getElem_cons_zero, List.setIfInBounds_toArray, List.set_cons_zero, List.set_cons_succ])); (refine wpZ_take (i := 10) (oi := _) (v := ?zv58) rfl (by kernel_rfl) (by kernel_rfl) (by kernel_rfl) (by kernel_rfl) (fun _ _ _ h => h) (Or.inl ⟨by rfl, ?zy58⟩) ?zS58 ?zr58; (case zy58 => (intro w_ hSw; (try dsimp only at hSw); go_simp; try (with_reducible rfl))); (case zS58 => exact ⟨(blk_cell B3.out 4).trans rfl, HX.out⟩); (try simp only [Act.put, List.getElem_toArray, List.getElem_cons_succ, List.getElem_cons_zero, List.setIfInBounds_toArray, List.set_cons_zero, List.set_cons_succ])); (refine wpZ_take (i := 11) (oi := _) (v := ?zv59) rfl (by kernel_rfl) (by kernel_rfl) (by kernel_rfl) (by kernel_rfl) (fun _ _ _ h => h) (Or.inl ⟨by rfl, ?zy59⟩) ?zS59 ?zr59; (case zy59 => (intro w_ hSw; (try dsimp only at hSw); go_simp; try (with_reducible rfl))); (case zS59 => exact ⟨(blk_cell B3.out 4).trans rfl, HX.out⟩); (try simp only [Act.put, List.getElem_toArray, List.getElem_cons_succ, List.getElem_cons_zero, List.setIfInBounds_toArray, List.set_cons_zero, List.set_cons_succ])); (refine wpZ_take (i := 12) (oi := _) (v := ?zv60) rfl (by kernel_rfl) (by kernel_rfl) (by kernel_rfl) (by kernel_rfl) (fun _ _ _ h => h) (Or.inl ⟨by rfl, ?zy60⟩) ?zS60 ?zr60; (case zy60 => (intro w_ hSw; (try dsimp only at hSw); go_simp; try (with_reducible rfl))); (case zS60 => exact ⟨(blk_cell B3.out 4).trans rfl, HX.out⟩); (try simp only [Act.put, List.getElem_toArray, List.getElem_cons_succ, List.getElem_cons_zero, List.setIfInBounds_toArray, List.set_cons_zero, List.set_cons_succ]))
       clear cl0
       (refine wpZ_one (i := 13) (by kernel_rfl) rfl (fun K_ hK_ => ?_); go_simp; refine hK_.out _ _ (fun _ => ⟨(blk_cell B3.out 4).trans rfl, HX.out⟩) ?_; clear hK_ K_; (try simp only [Act.put, List.getElem_toArray, List.getElem_cons_succ, List.getElem_cons_zero, List.setIfInBounds_toArray, List.set_cons_zero, List.set_cons_succ]))
       (refine wpZ_one (i := 14) (by kernel_rfl) rfl (fun K_ hK_ => ?_); go_simp; refine hK_.out _ _ (fun h => absurd rfl h) ?_; clear hK_ K_; (try simp only [Act.put, List.getElem_toArray, List.getElem_cons_succ, List.getElem_cons_zero, List.setIfInBounds_toArray, List.set_cons_zero, List.set_cons_succ]))
       refine wpZ_done (by kernel_rfl) ?_ _
       clear hz1 hz2
       obtain ⟨w10, hw8⟩ : ∃ x, x = (w9.setCell ⟨p6, k, none⟩ (.bool bp6)).drew := ⟨_, rfl⟩
       obtain ⟨cells_, hcells_⟩ := Kd.R_typed HU.out p6 (by simp [Value.ownBlock])
       have n1_ := Aside0.mk (Kd.R_drew (R_setb HK.out hcells_ (by decide) k (.bool bp6)))
       have n2_ := Aside0.mk (Kd.R_drew HST.out)
       have n3_ := Aside0.mk (Kd.R_drew (bool_far (g := p6) (i := k) (u := .bool bp6) HS.out (by intro e_; injection e_ with e_; exact NE56.out e_)))
       have n4_ := Aside0.mk (blk_drew (blk_far (p := ⟨p6, k, none⟩) B3.out NE36.out (.bool bp6)))
       have n5_ := Aside0.mk (below_drew1 (show Below w.heap.size w (w9.setCell ⟨p6, k, none⟩ (.bool bp6)) from below_set HBL.out GE6.out))
       rw [← hw8] at n1_ n2_ n3_ n4_ n5_ ⊢
       clear hw8 hcells_ HK HU HS B3 HBL HST
       have HK := n1_
       have HU := n2_
       have HS := n3_
       have B3 := n4_
       have HBL := n5_
       clear n1_ n2_ n3_ n4_ n5_
      case' inr =>
       obtain ⟨bp6, hbp6⟩ : ∃ x, x = gu k := ⟨_, rfl⟩
       have hst0 := bool_put HU.out k hlt bp6
       rw [hbp6, mkL_set n k gu hlt, ← hbp6] at hst0
       obtain ⟨hst, hz1, hz2⟩ := hst0
       have HST := Aside0.mk hst
       clear hst
       have cl0 : decide ((k : Int) < (l1.length : Int)) = false := decide_eq_false (by omega)
       have hbf : bp6 = false := by rw [hbp6, HGU.out]; show rdOf false l1 (k : Int) = false; unfold rdOf; rw [Int.toNat_natCast, List.getD_eq_getElem?_getD, List.getElem?_eq_none (by omega)]; rfl
       have HBp6 := Aside0.mk hbp6
       clear hbp6
       refine region_Z 14 (fun w' => w'.cell? ⟨g3, 4, none⟩ = some (.slice (some ⟨p6, 0, none⟩) n c6)) (by kernel_rfl) ?_
       (refine wpZ_take (i := 0) (oi := _) (v := ?zv61) rfl (by kernel_rfl) (by kernel_rfl) (by kernel_rfl) (by kernel_rfl) (fun _ _ _ h => h) (Or.inl ⟨by rfl, ?zy61⟩) ?zS61 ?zr61; (case zy61 => (intro w_ hSw; (try dsimp only at hSw); go_simp; try (with_reducible rfl))); (case zS61 => exact (blk_cell B3.out 4).trans rfl); (try simp only [Act.put, List.getElem_toArray, List.getElem_cons_succ, List.getElem_cons_zero, List.setIfInBounds_toArray, List.set_cons_zero, List.set_cons_succ])); (refine wpZ_take (i := 1) (oi := _) (v := ?zv62) rfl (by kernel_rfl) (by kernel_rfl) (by kernel_rfl) (by kernel_rfl) (fun _ _ _ h => h) (Or.inl ⟨by rfl, ?zy62⟩) ?zS62 ?zr62; (case zy62 => (intro w_ hSw; (try dsimp only at hSw); go_simp; try (with_reducible rfl))); (case zS62 => exact (blk_cell B3.out 4).trans rfl); (try simp only [Act.put, List.getElem_toArray, List.getElem_cons_succ, List.getElem_cons_zero, List.setIfInBounds_toArray, List.set_cons_zero, List.set_cons_succ])); (refine wpZ_take (i := 2) (oi := _) (v := ?zv63) rfl (by kernel_rfl) (by kernel_rfl) (by kernel_rfl) (by kernel_rfl) (fun _ _ _ h => h) (Or.inl ⟨by rfl, ?zy63⟩) ?zS63 ?zr63; (case zy63 => (intro w_ hSw; (try dsimp only at hSw); go_simp; try (with_reducible rfl))); (case zS63 => exact (blk_cell B3.out 4).trans rfl); (try simp only [Act.put, List.getElem_toArray, List.getElem_cons_succ, List.getElem_cons_zero, List.setIfInBounds_toArray, List.set_cons_zero, List.set_cons_succ])); (refine wpZ_take (i := 3) (oi := _) (v := ?zv64) rfl (by kernel_rfl) (by kernel_rfl) (by kernel_rfl) (by kernel_rfl) (fun _ _ _ h => h) (Or.inl ⟨by rfl, ?zy64⟩) ?zS64 ?zr64; (case zy64 => (intro w_ hSw; (try dsimp only at hSw); go_simp; try (with_reducible rfl))); (case zS64 => exact (blk_cell B3.out 4).trans rfl); (try simp only [Act.put, List.getElem_toArray, List.getElem_cons_succ, List.getElem_cons_zero, List.setIfInBounds_toArray, List.set_cons_zero, List.set_cons_succ])); (refine wpZ_take (i := 4) (oi := _) (v := ?zv65) rfl (by kernel_rfl) (by kernel_rfl) (by kernel_rfl) (by kernel_rfl) (fun _ _ _ h => h) (Or.inl ⟨by rfl, ?zy65⟩) ?zS65 ?zr65; (case zy65 => (intro w_ hSw; (try dsimp only at hSw); go_simp; try (with_reducible rfl))); (case zS65 => exact (blk_cell B3.out 4).trans rfl); (try simp only [Act.put, List.getElem_toArray, List.getElem_cons_succ, List.getElem_cons_zero, List.setIfInBounds_toArray, List.set_cons_zero, List.set_cons_succ])); (refine wpZ_take (i := 5) (oi := _) (v := ?zv66) rfl (by kernel_rfl) (by kernel_rfl) (by kernel_rfl) (by kernel_rfl) (fun _ _ _ h => h) (Or.inl ⟨by rfl, ?zy66⟩) ?zS66 ?zr66; (case zy66 => (intro w_ hSw; (try dsimp only at hSw); go_simp; try (with_reducible rfl))); (case zS66 => exact (blk_cell B3.out 4).trans rfl); (try simp only [Act.put, List.getElem_toArray, List.getElem_cons_succ, List.getElem_cons_zero, List.setIfInBounds_toArray, List.set_cons_zero, List.set_cons_succ])); (refine wpZ_take (i := 6) (oi := _) (v := ?zv67) rfl (by kernel_rfl) (by kernel_rfl) (by kernel_rfl) (by kernel_rfl) (fun _ _ _ h => h) (Or.inl ⟨by rfl, ?zy67⟩) ?zS67 ?zr67; (case zy67 => (intro w_ hSw; (try dsimp only at hSw); go_simp; try (with_reducible rfl))); (case zS67 => exact (blk_cell B3.out 4).trans rfl); (try simp only [Act.put, List.getElem_toArray, List.getElem_cons_succ, List.getElem_cons_zero, List.setIfInBounds_toArray, List.set_cons_zero, List.set_cons_succ])); (refine wpZ_take (i := 7) (oi := _) (v := ?zv68) rfl (by kernel_rfl) (by kernel_rfl) (by kernel_rfl) (by kernel_rfl) (fun _ _ _ h => h) (Or.inl ⟨by rfl, ?zy68⟩) ?zS68 ?zr68; (case zy68 => (intro w_ hSw; (try dsimp only at hSw); go_simp; try (with_reducible rfl))); (case zS68 => exact (blk_cell B3.out 4).trans rfl); (try simp only [Act.put, List.getElem_toArray, List.getElem_cons_succ, List.getElem_cons_zero, List.setIfInBounds_toArray, List.set_cons_zero, List.set_cons_succ]))
       (refine wpZ_take (i := 8) (oi := _) (v := undef) rfl (by kernel_rfl) (by kernel_rfl) (by kernel_rfl) (by kernel_rfl) (fun _ _ _ h => h) (Or.inr ⟨by rfl, rfl⟩) ?zSn9 ?zrn9; (case zSn9 => exact (blk_cell B3.out 4).trans rfl); (try simp only [Act.put, List.getElem_toArray, List.getElem_cons_succ, List.getElem_cons_zero, List.setIfInBounds_toArray, List.set_cons_zero, List.set_cons_succ])); (refine wpZ_take (i := 9) (oi := _) (v := undef) rfl (by kernel_rfl) (by kernel_rfl) (by kernel_rfl) (by kernel_rfl) (fun _ _ _ h => h) (Or.inr ⟨by rfl, rfl⟩) ?zSn10 ?zrn10; (case zSn10 => exact (blk_cell B3.out 4).trans rfl); (try simp only [Act.put, List.getElem_toArray, List.getElem_cons_succ, List.getElem_cons_zero, List.setIfInBounds_toArray, List.set_cons_zero, List.set_cons_succ])); (refine wpZ_take (i := 10) (oi := _) (v := undef) rfl (by kernel_rfl) (by kernel_rfl) (by kernel_rfl) (by kernel_rfl) (fun _ _ _ h => h) (Or.inr ⟨by rfl, rfl⟩) ?zSn11 ?zrn11; (case zSn11 => exact (blk_cell B3.out 4).trans rfl); (try simp only [Act.put, List.getElem_toArray, List.getElem_cons_succ, List.getElem_cons_zero, List.setIfInBounds_toArray, List.set_cons_zero, List.set_cons_succ])); (refine wpZ_take (i := 11) (oi := _) (v := undef) rfl (by kernel_rfl) (by kernel_rfl) (by kernel_rfl) (by kernel_rfl) (fun _ _ _ h => h) (Or.inr ⟨by rfl, rfl⟩) ?zSn12 ?zrn12; (case zSn12 => exact (blk_cell B3.out 4).trans rfl); (try simp only [Act.put, List.getElem_toArray, List.getElem_cons_succ, List.getElem_cons_zero, List.setIfInBounds_toArray, List.set_cons_zero, List.set_cons_succ]))
       (refine wpZ_take (i := 12) (oi := _) (v := ?zv69) rfl (by kernel_rfl) (by kernel_rfl) (by kernel_rfl) (by kernel_rfl) (fun _ _ _ h => h) (Or.inl ⟨by rfl, ?zy69⟩) ?zS69 ?zr69; (case zy69 => (intro w_ hSw; (try dsimp only at hSw); go_simp; try (with_reducible rfl))); (case zS69 => exact (blk_cell B3.out 4).trans rfl); (try simp only [Act.put, List.getElem_toArray, List.getElem_cons_succ, List.getElem_cons_zero, List.setIfInBounds_toArray, List.set_cons_zero, List.set_cons_succ]))
       clear cl0
       (refine wpZ_one (i := 13) (by kernel_rfl) rfl (fun K_ hK_ => ?_); go_simp; refine hK_.out _ _ (fun _ => (blk_cell B3.out 4).trans rfl) ?_; clear hK_ K_; (try simp only [Act.put, List.getElem_toArray, List.getElem_cons_succ, List.getElem_cons_zero, List.setIfInBounds_toArray, List.set_cons_zero, List.set_cons_succ]))
       subst hbf
       (refine wpZ_one (i := 14) (by kernel_rfl) rfl (fun K_ hK_ => ?_); go_simp; refine hK_.out _ _ (fun h => absurd rfl h) ?_; clear hK_ K_; (try simp only [Act.put, List.getElem_toArray, List.getElem_cons_succ, List.getElem_cons_zero, List.setIfInBounds_toArray, List.set_cons_zero, List.set_cons_succ]))
       refine wpZ_done (by kernel_rfl) ?_ _
       clear hz1 hz2
       obtain ⟨w10, hw8⟩ : ∃ x, x = (w9.setCell ⟨p6, k, none⟩ (.bool false)).drew := ⟨_, rfl⟩
       obtain ⟨cells_, hcells_⟩ := Kd.R_typed HU.out p6 (by simp [Value.ownBlock])
       have n1_ := Aside0.mk (Kd.R_drew (R_setb HK.out hcells_ (by decide) k (.bool false)))
       have n2_ := Aside0.mk (Kd.R_drew HST.out)
       have n3_ := Aside0.mk (Kd.R_drew (bool_far (g := p6) (i := k) (u := .bool false) HS.out (by intro e_; injection e_ with e_; exact NE56.out e_)))
       have n4_ := Aside0.mk (blk_drew (blk_far (p := ⟨p6, k, none⟩) B3.out NE36.out (.bool false)))
       have n5_ := Aside0.mk (below_drew1 (show Below w.heap.size w (w9.setCell ⟨p6, k, none⟩ (.bool false)) from below_set HBL.out GE6.out))
       rw [← hw8] at n1_ n2_ n3_ n4_ n5_ ⊢
       clear hw8 hcells_ HK HU HS B3 HBL HST
       have HK := n1_
       have HU := n2_
       have HS := n3_
       have B3 := n4_
       have HBL := n5_
       clear n1_ n2_ n3_ n4_ n5_
     all_goals
      have hs3 : w10.cell? ⟨g3, 3, none⟩ = some (.slice (some ⟨p5, 0, none⟩) n c5) := (blk_cell B3.out 3).trans rfl
      have hs4 : w10.cell? ⟨g3, 4, none⟩ = some (.slice (some ⟨p6, 0, none⟩) n c6) := (blk_cell B3.out 4).trans rfl
      obtain ⟨sv, hsv⟩ : ∃ x, x = gs k := ⟨_, rfl⟩
      obtain ⟨uv, huv⟩ : ∃ x, x = gu k := ⟨_, rfl⟩
      have hs5 : w10.cell? ⟨p5, k, none⟩ = some (.bool sv) := by rw [(bool_put HS.out k hlt true).2.1, mkL_at n (k + 1) gs k hlt, if_pos (Nat.lt_succ_self k), hsv]
      have hs6 : w10.cell? ⟨p6, k, none⟩ = some (.bool uv) := by rw [(bool_put HU.out k hlt true).2.1, mkL_at n (k + 1) gu k hlt, if_pos (Nat.lt_succ_self k), huv]
      have HOK2 := Aside0.mk (show ((List.range (k + 1)).all fun i => !gu i || gs i) = (okv && (!uv || sv)) by rw [all_succ, ← HOK.out, ← hsv, ← huv])
      have HNO2 := Aside0.mk (show ((List.range (k + 1)).all fun i => !gu i) = (nov && !uv) by rw [all_succ, ← HNO.out, ← huv])
      clear hsv huv HOK HNO
      cases okv <;> cases uv <;> cases nov
     all_goals
      go_wp2
      go_roundw
      case rel => exact ⟨k + 1, by omega, by rw [HOK2.out]; simp, by rw [HNO2.out]; simp, by go_num, HK, HS, HU, B3, HBL⟩
      case measure => simp [intOf]; omega
    ·
     have hkn : n = k := by omega
     subst hkn
     have cl : decide ((n : Int) < (n : Int)) = false := decide_eq_false (by omega)
     have rx := marks_right n hn1 hn2 (mkL n n gs) (mkL n n gu) (.inr (mkL_len _ _ _)) (.inr (mkL_len _ _ _))
     have ry := marks_right n hn1 hn2 [] (mkL n n gu) (.inl rfl) (.inr (mkL_len _ _ _))
     have rz := marks_right n hn1 hn2 (mkL n n gs) [] (.inr (mkL_len _ _ _)) (.inl rfl)
     rw [mark_x n hn1] at rx
     rw [mark_y n hn1] at ry
     rw [mark_z] at rz
     obtain ⟨okv, hokv⟩ : ∃ x, x = (List.range n).all fun i => !gu i || gs i := ⟨_, rfl⟩
     obtain ⟨nov, hnov⟩ : ∃ x, x = (List.range n).all fun i => !gu i := ⟨_, rfl⟩
     rw [← hokv] at rx ⊢
     rw [← hnov] at ry ⊢
     have RX := Aside0.mk rx
     have RY := Aside0.mk ry
     have RZ := Aside0.mk rz
     clear rx ry rz hokv hnov HGS HGU HR0 HR1
     have s0 : wr.cell? ⟨g3, 0, none⟩ = some (.slice A3 m3 c3) := (blk_cell B3.out 0).trans rfl; have s1 : wr.cell? ⟨g3, 1, none⟩ = some (.slice none 0 0) := (blk_cell B3.out 1).trans rfl; have s2 : wr.cell? ⟨g3, 2, none⟩ = some (.slice none 0 0) := (blk_cell B3.out 2).trans rfl; have s3 : wr.cell? ⟨g3, 3, none⟩ = some (.slice (some ⟨p5, 0, none⟩) n c5) := (blk_cell B3.out 3).trans rfl; have s4 : wr.cell? ⟨g3, 4, none⟩ = some (.slice (some ⟨p6, 0, none⟩) n c6) := (blk_cell B3.out 4).trans rfl
     have HB := HBL
     go_upto_region 14 with (first
      | ((with_reducible refine gate_dst (N := 12) rfl ?_); refine box_event ?hg (N := 12) ?hd (cs := #[.slice none 0 0, .slice none 0 0, .slice none 0 0, .slice none 0 0, .slice none 0 0]) (t := 27) ?hr ?_; (case hd => rfl); (case hg => rfl); (case hr => first | (go_simp; done) | (go_simp; rfl)); intro g4 hg w4 hbox hb; have Bg4 := Aside0.mk hbox; have GEg4 := Aside0.mk (show w.heap.size ≤ g4 by first | omega | (have h_ := below_size HB.out; omega)); have NE34 := Aside0.mk (show g3 ≠ g4 by have := blk_lt B3.out; omega); clear hbox hg; have n0_ := Aside0.mk (blk_below B3.out hb); have n1_ := Aside0.mk (Kd.R_below HK.out hb); have n2_ := Aside0.mk (Kd.R_below HS.out hb); have n3_ := Aside0.mk (Kd.R_below HU.out hb); have n4_ := Aside0.mk (below_step HB.out hb); clear B3 HK HS HU HB; have B3 := n0_; have HK := n1_; have HS := n2_; have HU := n3_; have HB := n4_; clear n0_ n1_ n2_ n3_ n4_ hb; have z0 : w4.cell? ⟨g4, 0, none⟩ = some (.slice none 0 0) := (blk_cell Bg4.out 0).trans rfl; have z1 : w4.cell? ⟨g4, 1, none⟩ = some (.slice none 0 0) := (blk_cell Bg4.out 1).trans rfl; have z2 : w4.cell? ⟨g4, 2, none⟩ = some (.slice none 0 0) := (blk_cell Bg4.out 2).trans rfl; have z3 : w4.cell? ⟨g4, 3, none⟩ = some (.slice none 0 0) := (blk_cell Bg4.out 3).trans rfl; have z4 : w4.cell? ⟨g4, 4, none⟩ = some (.slice none 0 0) := (blk_cell Bg4.out 4).trans rfl; have y0 := blk_frozen Bg4.out 0; have y1 := blk_frozen Bg4.out 1; have y2 := blk_frozen Bg4.out 2; have y3 := blk_frozen Bg4.out 3; have y4 := blk_frozen Bg4.out 4))
     refine forget_wp (fun wc => Aside0 (wc.heap[g3]? = some (.cells #[.slice A3 m3 c3, .slice none 0 0, .slice none 0 0, .slice (some ⟨p5, 0, none⟩) n c5, .slice (some ⟨p6, 0, none⟩) n c6] 27 (0, 0))) ∧ Aside0 (wc.heap[g4]? = some (.cells #[.slice A3 m3 c3, .slice none 0 0, .slice none 0 0, .slice none 0 0, .slice (some ⟨p6, 0, none⟩) n c6] 27 (0, 0))) ∧ Aside0 (Kd.R k56 56 wc w.heap.size (fun _ => True) (.slice A3 m3 c3) (List.replicate n z56)) ∧ Aside0 (Kd.R Kd.bool 4 wc w.heap.size (fun _ => True) (.slice (some ⟨p5, 0, none⟩) n c5) (mkL n n gs)) ∧ Aside0 (Kd.R Kd.bool 4 wc w.heap.size (fun _ => True) (.slice (some ⟨p6, 0, none⟩) n c6) (mkL n n gu)) ∧ Aside0 (Below w.heap.size w wc)) ⟨⟨put5_far B3.out NE34.out⟩, ⟨put5_at Bg4.out⟩, ⟨put5_R HK.out Bg4.out (by decide)⟩, ⟨put5_R HS.out Bg4.out (by decide)⟩, ⟨put5_R HU.out Bg4.out (by decide)⟩, ⟨put5_below HB.out GEg4.out⟩⟩ ?_
     clear B3 Bg4 HK HS HU HB HBL NE34 GEg4 s0 s1 s2 s3 s4 z0 z1 z2 z3 z4 y0 y1 y2 y3 y4
     rintro w5 ⟨B3, B4, HK, HS, HU, HB⟩
     have s0 : w5.cell? ⟨g3, 0, none⟩ = some (.slice A3 m3 c3) := (blk_cell B3.out 0).trans rfl; have s1 : w5.cell? ⟨g3, 1, none⟩ = some (.slice none 0 0) := (blk_cell B3.out 1).trans rfl; have s2 : w5.cell? ⟨g3, 2, none⟩ = some (.slice none 0 0) := (blk_cell B3.out 2).trans rfl; have s3 : w5.cell? ⟨g3, 3, none⟩ = some (.slice (some ⟨p5, 0, none⟩) n c5) := (blk_cell B3.out 3).trans rfl; have s4 : w5.cell? ⟨g3, 4, none⟩ = some (.slice (some ⟨p6, 0, none⟩) n c6) := (blk_cell B3.out 4).trans rfl
     go_upto_region 15 with (first
      | ((with_reducible refine gate_dst (N := 13) rfl ?_); refine box_event ?hg (N := 13) ?hd (cs := #[.slice none 0 0, .slice none 0 0, .slice none 0 0, .slice none 0 0, .slice none 0 0]) (t := 27) ?hr ?_; (case hd => rfl); (case hg => rfl); (case hr => first | (go_simp; done) | (go_simp; rfl)); intro g5 hg w6 hbox hb; have Bg5 := Aside0.mk hbox; have GEg5 := Aside0.mk (show w.heap.size ≤ g5 by first | omega | (have h_ := below_size HB.out; omega)); have NE35_ := Aside0.mk (show g3 ≠ g5 by have := blk_lt B3.out; omega); have NE45 := Aside0.mk (show g4 ≠ g5 by have := blk_lt B4.out; omega); clear hbox hg; have n0_ := Aside0.mk (blk_below B3.out hb); have n1_ := Aside0.mk (blk_below B4.out hb); have n2_ := Aside0.mk (Kd.R_below HK.out hb); have n3_ := Aside0.mk (Kd.R_below HS.out hb); have n4_ := Aside0.mk (Kd.R_below HU.out hb); have n5_ := Aside0.mk (below_step HB.out hb); clear B3 B4 HK HS HU HB; have B3 := n0_; have B4 := n1_; have HK := n2_; have HS := n3_; have HU := n4_; have HB := n5_; clear n0_ n1_ n2_ n3_ n4_ n5_ hb; have z0 : w6.cell? ⟨g5, 0, none⟩ = some (.slice none 0 0) := (blk_cell Bg5.out 0).trans rfl; have z1 : w6.cell? ⟨g5, 1, none⟩ = some (.slice none 0 0) := (blk_cell Bg5.out 1).trans rfl; have z2 : w6.cell? ⟨g5, 2, none⟩ = some (.slice none 0 0) := (blk_cell Bg5.out 2).trans rfl; have z3 : w6.cell? ⟨g5, 3, none⟩ = some (.slice none 0 0) := (blk_cell Bg5.out 3).trans rfl; have z4 : w6.cell? ⟨g5, 4, none⟩ = some (.slice none 0 0) := (blk_cell Bg5.out 4).trans rfl; have y0 := blk_frozen Bg5.out 0; have y1 := blk_frozen Bg5.out 1; have y2 := blk_frozen Bg5.out 2; have y3 := blk_frozen Bg5.out 3; have y4 := blk_frozen Bg5.out 4))
     refine forget_wp (fun wc => Aside0 (wc.heap[g3]? = some (.cells #[.slice A3 m3 c3, .slice none 0 0, .slice none 0 0, .slice (some ⟨p5, 0, none⟩) n c5, .slice (some ⟨p6, 0, none⟩) n c6] 27 (0, 0))) ∧ Aside0 (wc.heap[g4]? = some (.cells #[.slice A3 m3 c3, .slice none 0 0, .slice none 0 0, .slice none 0 0, .slice (some ⟨p6, 0, none⟩) n c6] 27 (0, 0))) ∧ Aside0 (wc.heap[g5]? = some (.cells #[.slice A3 m3 c3, .slice none 0 0, .slice none 0 0, .slice (some ⟨p5, 0, none⟩) n c5, .slice none 0 0] 27 (0, 0))) ∧ Aside0 (Kd.R k56 56 wc w.heap.size (fun _ => True) (.slice A3 m3 c3) (List.replicate n z56)) ∧ Aside0 (Kd.R Kd.bool 4 wc w.heap.size (fun _ => True) (.slice (some ⟨p5, 0, none⟩) n c5) (mkL n n gs)) ∧ Aside0 (Kd.R Kd.bool 4 wc w.heap.size (fun _ => True) (.slice (some ⟨p6, 0, none⟩) n c6) (mkL n n gu)) ∧ Aside0 (Below w.heap.size w wc)) ⟨⟨put5_far B3.out NE35_.out⟩, ⟨put5_far B4.out NE45.out⟩, ⟨put5_at Bg5.out⟩, ⟨put5_R HK.out Bg5.out (by decide)⟩, ⟨put5_R HS.out Bg5.out (by decide)⟩, ⟨put5_R HU.out Bg5.out (by decide)⟩, ⟨put5_below HB.out GEg5.out⟩⟩ ?_
     clear B3 B4 Bg5 HK HS HU HB NE35_ NE45 GEg5 s0 s1 s2 s3 s4 z0 z1 z2 z3 z4 y0 y1 y2 y3 y4
     rintro w7 ⟨B3, B4, B5, HK, HS, HU, HB⟩
     have s0 : w7.cell? ⟨g3, 0, none⟩ = some (.slice A3 m3 c3) := (blk_cell B3.out 0).trans rfl; have s1 : w7.cell? ⟨g3, 1, none⟩ = some (.slice none 0 0) := (blk_cell B3.out 1).trans rfl; have s2 : w7.cell? ⟨g3, 2, none⟩ = some (.slice none 0 0) := (blk_cell B3.out 2).trans rfl; have s3 : w7.cell? ⟨g3, 3, none⟩ = some (.slice (some ⟨p5, 0, none⟩) n c5) := (blk_cell B3.out 3).trans rfl; have s4 : w7.cell? ⟨g3, 4, none⟩ = some (.slice (some ⟨p6, 0, none⟩) n c6) := (blk_cell B3.out 4).trans rfl; have t0 : w7.cell? ⟨g4, 0, none⟩ = some (.slice A3 m3 c3) := (blk_cell B4.out 0).trans rfl; have t1 : w7.cell? ⟨g4, 1, none⟩ = some (.slice none 0 0) := (blk_cell B4.out 1).trans rfl; have t2 : w7.cell? ⟨g4, 2, none⟩ = some (.slice none 0 0) := (blk_cell B4.out 2).trans rfl; have t3 : w7.cell? ⟨g4, 3, none⟩ = some (.slice none 0 0) := (blk_cell B4.out 3).trans rfl; have t4 : w7.cell? ⟨g4, 4, none⟩ = some (.slice (some ⟨p6, 0, none⟩) n c6) := (blk_cell B4.out 4).trans rfl; have u0 : w7.cell? ⟨g5, 0, none⟩ = some (.slice A3 m3 c3) := (blk_cell B5.out 0).trans rfl; have u1 : w7.cell? ⟨g5, 1, none⟩ = some (.slice none 0 0) := (blk_cell B5.out 1).trans rfl; have u2 : w7.cell? ⟨g5, 2, none⟩ = some (.slice none 0 0) := (blk_cell B5.out 2).trans rfl; have u3 : w7.cell? ⟨g5, 3, none⟩ = some (.slice (some ⟨p5, 0, none⟩) n c5) := (blk_cell B5.out 3).trans rfl; have u4 : w7.cell? ⟨g5, 4, none⟩ = some (.slice none 0 0) := (blk_cell B5.out 4).trans rfl
     try go_wp2_with (first
      | (go_at_call 16; (with_reducible refine (right_of HK.out HS.out HU.out RX.out).mono ?_); rintro e w8 ⟨rfl, hb⟩; have n0_ := Aside0.mk (blk_below B4.out hb); have n1_ := Aside0.mk (blk_below B5.out hb); have n2_ := Aside0.mk (Kd.R_below HK.out hb); have n3_ := Aside0.mk (Kd.R_below HS.out hb); have n4_ := Aside0.mk (Kd.R_below HU.out hb); have n5_ := Aside0.mk (below_step HB.out hb); clear B4 B5 HK HS HU HB; have B4 := n0_; have B5 := n1_; have HK := n2_; have HS := n3_; have HU := n4_; have HB := n5_; clear n0_ n1_ n2_ n3_ n4_ n5_ hb; have s0 : w8.cell? ⟨g4, 0, none⟩ = some (.slice A3 m3 c3) := (blk_cell B4.out 0).trans rfl; have s1 : w8.cell? ⟨g4, 1, none⟩ = some (.slice none 0 0) := (blk_cell B4.out 1).trans rfl; have s2 : w8.cell? ⟨g4, 2, none⟩ = some (.slice none 0 0) := (blk_cell B4.out 2).trans rfl; have s3 : w8.cell? ⟨g4, 3, none⟩ = some (.slice none 0 0) := (blk_cell B4.out 3).trans rfl; have s4 : w8.cell? ⟨g4, 4, none⟩ = some (.slice (some ⟨p6, 0, none⟩) n c6) := (blk_cell B4.out 4).trans rfl; have t0 : w8.cell? ⟨g5, 0, none⟩ = some (.slice A3 m3 c3) := (blk_cell B5.out 0).trans rfl; have t1 : w8.cell? ⟨g5, 1, none⟩ = some (.slice none 0 0) := (blk_cell B5.out 1).trans rfl; have t2 : w8.cell? ⟨g5, 2, none⟩ = some (.slice none 0 0) := (blk_cell B5.out 2).trans rfl; have t3 : w8.cell? ⟨g5, 3, none⟩ = some (.slice (some ⟨p5, 0, none⟩) n c5) := (blk_cell B5.out 3).trans rfl; have t4 : w8.cell? ⟨g5, 4, none⟩ = some (.slice none 0 0) := (blk_cell B5.out 4).trans rfl)
      | (go_at_call 16; (with_reducible refine (right_of HK.out (Kd.R_nil Kd.bool 4 _ 0 (fun _ => True)) HU.out RY.out).mono ?_); rintro e w9 ⟨rfl, hb⟩; have n0_ := Aside0.mk (blk_below B5.out hb); have n1_ := Aside0.mk (Kd.R_below HK.out hb); have n2_ := Aside0.mk (Kd.R_below HS.out hb); have n3_ := Aside0.mk (Kd.R_below HU.out hb); have n4_ := Aside0.mk (below_step HB.out hb); clear B5 HK HS HU HB; have B5 := n0_; have HK := n1_; have HS := n2_; have HU := n3_; have HB := n4_; clear n0_ n1_ n2_ n3_ n4_ hb; have u0 : w9.cell? ⟨g5, 0, none⟩ = some (.slice A3 m3 c3) := (blk_cell B5.out 0).trans rfl; have u1 : w9.cell? ⟨g5, 1, none⟩ = some (.slice none 0 0) := (blk_cell B5.out 1).trans rfl; have u2 : w9.cell? ⟨g5, 2, none⟩ = some (.slice none 0 0) := (blk_cell B5.out 2).trans rfl; have u3 : w9.cell? ⟨g5, 3, none⟩ = some (.slice (some ⟨p5, 0, none⟩) n c5) := (blk_cell B5.out 3).trans rfl; have u4 : w9.cell? ⟨g5, 4, none⟩ = some (.slice none 0 0) := (blk_cell B5.out 4).trans rfl)
      | (go_at_call 16; (with_reducible refine (right_of HK.out HS.out (Kd.R_nil Kd.bool 4 _ 0 (fun _ => True)) RZ.out).mono ?_); rintro e w10 ⟨rfl, hb⟩; have n0_ := Aside0.mk (Kd.R_below HK.out hb); have n1_ := Aside0.mk (below_step HB.out hb); clear HK HB; have HK := n0_; have HB := n1_; clear n0_ n1_ hb))
     go_ret
     exact ⟨rfl, HB.out⟩
end Go.Proofs.Ythobnoknbdljgaa.Hand
end
section
namespace Go.Proofs.Ythobnoknbdljgaa.Hand
open Go.ChangeShapes Go.WideShapes Go.Deep Go.Joins Go.RowKit Go.Proofs.YthobnoknbdljgaaW.PrintWords PB0
section
variable {H : Type} {enc : TypeId × Value → H} {P : Program} {w : World} {base : Nat} {spare : Nat → Bool} {held : Bool}
theorem open_C {α : Type} [Inhabited α] (d : Kd α) (good : α → Prop) {t e : TypeId} {fuel : Nat} {cs : List Value} {x : DataW H × List MemPlace} (ht : P.underlying t = some (.slice e)) (hc : P.cellsOf e = d.sz)
  (hel : ∀ (n : Nat) (cs' : List Value) (y : DataW H × List MemPlace), DataW.trod enc P w base spare held n e cs' = some y → cs'.length = d.sz → ∃ q : α, d.K w q cs' ∧ good q)
  (h : DataW.trod enc P w base spare held fuel t cs = some x) :
  ∃ (A : Option Addr) (c : Nat) (xs : List α), cs = [.slice A xs.length c] ∧ d.C w A xs.length xs ∧ xs.length ≤ c ∧ ∀ q ∈ xs, good q := by
 rcases open_slice ht h with ⟨rfl, _⟩ | ⟨a, len, cap, m, n, D, Pl, rfl, hb, hl, hm, hmm, hx, hi⟩
 ·
  exact ⟨none, 0, [], rfl, ⟨rfl, by simp, fun h => by simp at h⟩, Nat.le_refl _, fun q hq => by cases hq⟩
 ·
  have hlm : len ≤ m := by rw [hmm]; split <;> omega
  have each : ∀ i, i < len → ∃ q : α, good q ∧ ∃ c : List Value, c.length = d.sz ∧ d.K w q c ∧ ∀ k u, c[k]? = some u → w.cell? (a.add (i * d.sz + k)) = some u := by
   intro i hlt
   obtain ⟨cs', h1, h2⟩ := hi i (by omega)
   obtain ⟨_, hlen, hcell⟩ := World.cells?_some h1
   rw [hc] at hlen hcell
   obtain ⟨q, hq, hg⟩ := hel _ _ _ h2 hlen
   refine ⟨q, hg, cs', hlen, hq, fun k u hu => ?_⟩
   have hk : k < d.sz := by have := (List.getElem?_eq_some_iff.1 hu).1; omega
   rw [← Go.Deep.add_add, hcell k hk, hu]
  obtain ⟨q, hq⟩ := choose_lt each
  have hl2 : ((List.range len).map q).length = len := by simp
  refine ⟨some a, cap, (List.range len).map q, by rw [hl2], ?_, by rw [hl2]; exact hl, ?_⟩
  ·
   rw [hl2]
   refine ⟨hl2, by have : maxLen = 2 ^ 63 - 1 := rfl; omega, fun _ => ⟨a, rfl, fun j p hp => ?_⟩⟩
   rw [List.getElem?_map] at hp
   obtain ⟨i, hi1, hi2⟩ := Option.map_eq_some_iff.1 hp
   obtain ⟨hi3, hi4⟩ := List.getElem?_eq_some_iff.1 hi1
   rw [List.getElem_range] at hi4
   subst hi4
   rw [List.length_range] at hi3
   subst hi2
   obtain ⟨_, c, h1, h2, h3⟩ := hq j hi3
   exact ⟨c, h1, h2, h3⟩
  ·
   intro p hp
   obtain ⟨i, hi1, rfl⟩ := List.mem_map.1 hp
   exact (hq i (List.mem_range.1 hi1)).1
end
instance : Inhabited S56 := ⟨⟨0, false, ⟨#[]⟩⟩⟩
instance : Inhabited S54 := ⟨⟨0, 0⟩⟩
instance : Inhabited S67 := ⟨⟨0, 0⟩⟩
section
variable {H : Type} {enc : TypeId × Value → H} {w : World} {base : Nat} {spare : Nat → Bool} {held : Bool} {fuel : Nat} {cs : List Value} {x : DataW H × List MemPlace}
theorem openB (h : DataW.trod enc Try.prog w base spare held fuel 25 cs = some x) : ∃ (A : Option Addr) (c : Nat) (xs : List Bool), cs = [.slice A xs.length c] ∧ Kd.C Kd.bool w A xs.length xs ∧ xs.length ≤ c ∧ ∀ q ∈ xs, True := by
 refine open_C Kd.bool (fun _ => True) Try.underlying25 (by kernel_rfl) ?_ h
 intro n cs' y h hl
 obtain ⟨b, e, _⟩ := DataW.trod_bool (by kernel_rfl) h
 exact ⟨b, e, trivial⟩
end
end Go.Proofs.Ythobnoknbdljgaa.Hand
end
section
namespace Go.Proofs.Ythobnoknbdljgaa.Hand
open Go.RowKit PB0 Go.Proofs.YthobnoknbdljgaaW.PrintWords
theorem marks_row (A0 : Option Addr) (c0 : Nat) (l0 : List Bool) (A1 : Option Addr) (c1 : Nat) (l1 : List Bool) (a2 : Int) (w : World) (hr0 : Kd.C Kd.bool w A0 l0.length l0) (hc0 : l0.length ≤ c0) (hr1 : Kd.C Kd.bool w A1 l1.length l1) (hc1 : l1.length ≤ c1) (_ : (Lit.int .i64 a2).wf = true) :
  Calls Try.prog 10 #[.slice A0 l0.length c0, .slice A1 l1.length c1, .int .i64 a2] w fun e w' => e = .returned (.bool true) ∧ Below w.heap.size w w' :=
 marks_walk A0 c0 l0 A1 c1 l1 a2 w hr0 hc0 hr1 hc1
end Go.Proofs.Ythobnoknbdljgaa.Hand
end
