/- The walk of header.Encode. -/
import Derived.Test.YtgaibighfmcgoaaPHdrAx1
import Derived.Test.YtgaibighfmcgoaaCounts
import Derived.Test.YtgaibighfmcgoaaMarks
import Derived.Test.YtgaibighfmcgoaaWZeros
namespace Go.Proofs.Ytgaibighfmcgoaa.Hand
open Go.RowKit Go.Proofs.YtgaibighfmcgoaaW.PrintWords Go.Proofs.YtgaibighfmcgoaaW.PrintLast Go.Proofs.YtgaibighfmcgoaaW.PrintMore Go.Proofs.Ytgaibighfmcgoaa.PHdrA
set_option linter.unusedVariables false
set_option linter.unusedSimpArgs false
def putN (k : Nat) : List Int → List Int → Option (List Int)
  | [], b => some b
  | h :: t, b => (octets_Put.f k b 4 (IntKind.u64.wrap h)).bind (putN k t)
def encHead (v : Int) : List Int := if v > 1 then [84, 90, 105, 102, (48 + v) % 256] else [84, 90, 105, 102, 0]
theorem idx_six (b i : Nat) (hi : i < 6) (W : World) : (Instr.index 45 (six b) (.int .i64 i)).run Try.prog W = .ok (.pointer (some ⟨b, i + 1, none⟩)) W := by
  obtain rfl | rfl | rfl | rfl | rfl | rfl : i = 0 ∨ i = 1 ∨ i = 2 ∨ i = 3 ∨ i = 4 ∨ i = 5 := by omega
  all_goals rfl
theorem encHead_len (v : Int) : (encHead v).length = 5 := by unfold encHead; split <;> rfl
def header_Encode.f (k : Nat) (a0_0 : Int) (a0_1 : Int) (a0_2 : Int) (a0_3 : Int) (a0_4 : Int) (a0_5 : Int) (a0_6 : Int) : Option (List Int × Int) :=
  (header_Right.f a0_0 a0_1 a0_2 a0_3 a0_4 a0_5 a0_6).bind fun t => if t = true then (putN k [a0_1, a0_2, a0_3, a0_4, a0_5, a0_6] (encHead a0_0 ++ List.replicate 15 0)).bind fun b => some (b, 0) else some ([], 1)
theorem putN_mono (k : Nat) : ∀ hs b, LeO (putN k hs b) (putN (k + 1) hs b)
  | [], _ => LeO.refl _
  | h :: t, b => LeO.bind (octets_Put.mono _ _ _ _) (fun y => putN_mono k t y)
theorem header_Encode.mono : ∀ a0 a1 a2 a3 a4 a5 a6 k, LeO (header_Encode.f k a0 a1 a2 a3 a4 a5 a6) (header_Encode.f (k + 1) a0 a1 a2 a3 a4 a5 a6) := fun _ _ _ _ _ _ _ k =>
  LeO.bind (LeO.refl _) (fun _ => LeO.ite (LeO.bind (putN_mono k _ _) (fun _ => LeO.refl _)) (LeO.refl _))
set_option maxHeartbeats 8000000 in
set_option maxRecDepth 100000 in
theorem header_Encode.calls (k : Nat) (a0_0 : Int) (a0_1 : Int) (a0_2 : Int) (a0_3 : Int) (a0_4 : Int) (a0_5 : Int) (a0_6 : Int) (r1 : List Int) (r2 : Int) (w : World) (h : header_Encode.f k a0_0 a0_1 a0_2 a0_3 a0_4 a0_5 a0_6 = some (r1, r2)) :
    Calls Try.prog 12 #[.agg #[.int .i64 a0_0, .int .i64 a0_1, .int .i64 a0_2, .int .i64 a0_3, .int .i64 a0_4, .int .i64 a0_5, .int .i64 a0_6]] w fun e w' => ∃ v0_ : Value, e = .returned (.tuple #[v0_, .int .i64 r2]) ∧ Kd.R (Kd.int .u8) 5 w' w.heap.size (fun _ => True) v0_ r1 ∧ Below w.heap.size w w' := by
  have hu23 := Try.underlying23
  have HB := Aside0.mk (Below.refl w.heap.size w)
  obtain ⟨t, HR0, H⟩ := Option.bind_eq_some_iff.mp h
  clear h
  have AR := Aside0.mk HR0
  clear HR0
  by_cases ct : t = true
  · rw [if_pos ct] at H
    subst ct
    obtain ⟨b, HP0, H⟩ := Option.bind_eq_some_iff.mp H
    have HP := Aside0.mk HP0
    clear HP0
    obtain ⟨rfl, rfl⟩ : b = r1 ∧ (0 : Int) = r2 := by simpa using H
    clear H
    go_enter Try.func12, Try.ntmps12
    go_upto_if 16 with (first
      | ((with_reducible refine gate_dst (N := 1) rfl ?_); refine box_event ?hg (N := 1) ?hd (cs := #[.int .i64 a0_0, .int .i64 a0_1, .int .i64 a0_2, .int .i64 a0_3, .int .i64 a0_4, .int .i64 a0_5, .int .i64 a0_6]) (t := 23) ?hr ?_; (case hd => rfl); (case hg => rfl); (case hr => first | (go_simp; done) | (go_simp; rfl)); intro gb hg w1 hbox hb; have BK := Aside0.mk hbox; have GE := Aside0.mk (show w.heap.size ≤ gb by omega); have n0_ := Aside0.mk (below_step HB.out hb); clear HB; have HB := n0_; clear n0_; clear hb hbox hg; have hc0 : w1.cell? ⟨gb, 0, none⟩ = some (.int .i64 a0_0) := (blk_cell BK.out 0).trans rfl; have hc1 : w1.cell? ⟨gb, 1, none⟩ = some (.int .i64 a0_1) := (blk_cell BK.out 1).trans rfl; have hc2 : w1.cell? ⟨gb, 2, none⟩ = some (.int .i64 a0_2) := (blk_cell BK.out 2).trans rfl; have hc3 : w1.cell? ⟨gb, 3, none⟩ = some (.int .i64 a0_3) := (blk_cell BK.out 3).trans rfl; have hc4 : w1.cell? ⟨gb, 4, none⟩ = some (.int .i64 a0_4) := (blk_cell BK.out 4).trans rfl; have hc5 : w1.cell? ⟨gb, 5, none⟩ = some (.int .i64 a0_5) := (blk_cell BK.out 5).trans rfl; have hc6 : w1.cell? ⟨gb, 6, none⟩ = some (.int .i64 a0_6) := (blk_cell BK.out 6).trans rfl)
      | ((with_reducible refine gate_callee (f := 13) rfl ?_); refine goesL_ (some 8) rfl rfl Try.func13 (by kernel_rfl) rfl #[.agg #[.int .i64 a0_0, .int .i64 a0_1, .int .i64 a0_2, .int .i64 a0_3, .int .i64 a0_4, .int .i64 a0_5, .int .i64 a0_6]] rfl (by (try simp only [List.map_toArray, List.map_cons, List.map_nil]); first | done | rfl) ?_; (with_reducible refine (header_Right.calls a0_0 a0_1 a0_2 a0_3 a0_4 a0_5 a0_6 true _ AR.out).mono ?_); rintro e w2 ⟨rfl, hb⟩; refine ⟨_, rfl, ?_⟩; have n0_ := Aside0.mk (blk_below BK.out hb); have n1_ := Aside0.mk (below_step HB.out hb); clear BK; clear HB; have BK := n0_; have HB := n1_; clear n0_ n1_; clear hb; have hd0 : w2.cell? ⟨gb, 0, none⟩ = some (.int .i64 a0_0) := (blk_cell BK.out 0).trans rfl)
      | ((with_reducible refine gate_dst (N := 10) rfl ?_); refine R_lit_marked 28 5 ?hg ?hg2 (N := 10) ?ho2 Try.underlying28 Try.underlying5 (n := 4) (inner := [.int .u8 84, .int .u8 90, .int .u8 105, .int .u8 102]) ?hev ?hr ?_; (case hg => rfl); (case hg2 => rfl); (case ho2 => rfl); (case hev => intro v_; first | (go_simp; done) | (go_simp; rfl) | rfl); (case hr => first | (go_simp; done) | (go_simp; rfl)); intro gm w3 hgm hm hb; clear hgm; have BM := Aside0.mk hm; have n0_ := Aside0.mk (blk_below BK.out hb); have n1_ := Aside0.mk (below_step HB.out hb); clear BK; clear HB; have BK := n0_; have HB := n1_; clear n0_ n1_; clear hb hm)
      | ((with_reducible refine gate_builtin (b := .append) (xs := #[.tmp 11, .tmp 12]) rfl ?_); at_builtin; refine R_append_marked (w0 := w) w.heap.size ?z1 (.tmp 11) (.tmp 12) 28 5 ?z2 Try.underlying28 info5 gm (C := #[.int .u8 84, .int .u8 90, .int .u8 105, .int .u8 102]) (q := 5) (fr := (4, 5)) [84, 90, 105, 102] (0) ?z3 ?z4 ?aO ?z5 ?aB ?aS ?z6 ?_;(case z1 => rfl); (case z2 => rfl); (case z3 => rfl); (case z4 => rfl); (case z5 => rfl); (case z6 => decide); (case aO => exact BM.out); (case aB => exact HB.out); (case aS => exact below_size HB.out); intro v4 w4 ho hb hg; have HO := Aside0.mk (show Kd.R (Kd.int .u8) 5 w4 w.heap.size (fun _ => True) v4 [84, 90, 105, 102, 0] from ho); have n0_ := Aside0.mk (blk_grown BK.out hg (by simp)); have HB2 := Aside0.mk hb; clear BK HB BM; have BK := n0_; have HB := HB2; clear n0_ HB2; clear ho hb hg; have hd0 : w4.cell? ⟨gb, 0, none⟩ = some (.int .i64 a0_0) := (blk_cell BK.out 0).trans rfl))
    (try simp only [Act.put, List.setIfInBounds_toArray, List.set_cons_zero, List.set_cons_succ])
    go_cut [4] (fun v4 wc => Aside0 (Kd.R (Kd.int .u8) 5 wc w.heap.size (fun _ => True) v4 (encHead a0_0)) ∧ Aside0 (wc.heap[gb]? = some (.cells #[.int .i64 a0_0, .int .i64 a0_1, .int .i64 a0_2, .int .i64 a0_3, .int .i64 a0_4, .int .i64 a0_5, .int .i64 a0_6] 23 (0, 0))) ∧ Aside0 (Below w.heap.size w wc))
    case first =>
      by_cases c1 : 1 < a0_0
      · have c1b : decide (1 < a0_0) = true := decide_eq_true c1
        have he : encHead a0_0 = [84, 90, 105, 102, (48 + a0_0) % 256] := by unfold encHead; rw [if_pos c1]
        rw [c1b]
        obtain ⟨g, cap, rfl⟩ := Joins.ownsRow_form (Kd.own_of_R HO.out) (by decide)
        have hgb : gb ≠ g := fun e => by have h_ := Kd.R_ne HO.out BK.out (by decide); simp [Value.ownBlock] at h_; omega
        have hcell : w4.cell? ⟨g, 4, none⟩ = some (.int .u8 0) := (Kd.R_cell 0 HO.out 4 (by decide) (by decide)).1
        have hfree : w4.frozen? ⟨g, 4, none⟩ = false := (Kd.R_cell 0 HO.out 4 (by decide) (by decide)).2
        go_wp2
        go_meet
        case rel => exact ⟨⟨by rw [he]; exact (Kd.R_putn HO.out 4 _)⟩, ⟨blk_far BK.out hgb _⟩, ⟨below_set HB.out (Kd.R_base HO.out _ rfl)⟩⟩
      · have c1b : decide (1 < a0_0) = false := decide_eq_false c1
        have he : encHead a0_0 = [84, 90, 105, 102, 0] := by unfold encHead; rw [if_neg c1]
        rw [c1b]
        go_wp2
        go_meet
        case rel => exact ⟨⟨by rw [he]; exact HO.out⟩, BK, HB⟩
    case rest =>
      obtain ⟨HO, BK, HB⟩ := hcut
      go_wp2_with (first
      | ((with_reducible refine gate_builtin (b := .append) (xs := #[.tmp 23, .const (.int .i64 15)]) rfl ?_); at_builtin; refine Kd.R_append_zeros (P := Try.prog) (Kd.int .u8) (w0 := w) (W := wc) w.heap.size ?z1 (.tmp 23) (.const (.int .i64 15)) 28 3 5 (.int .u8 0) 1 ?z2 ?y1 ?y2 info5 ?z5 ?z6 ?z7 u4 (encHead a0_0) 0 (kx := .i64) (k := .i64) 15 (fun _ => True) ?z3 ?z4 ?zz ?zf HO.out ?z8 HB.out ?y6 ?zl ?_; (case y1 => exact Try.underlying28); (case y2 => exact Try.underlying3); (case y6 => exact below_size HB.out); (case z6 => decide); (case z7 => decide); (case z8 => decide); (case z1 => rfl); (case z2 => rfl); (case z3 => rfl); (case z4 => rfl); (case z5 => rfl); (case zz => rfl); (case zf => exact fun _ _ => trivial); (case zl => rw [encHead_len]; show (5 + 15) * 1 ≤ 140737488355328; omega); intro v4 w4 ho hb hg hat; have n0_ := Aside0.mk ho; have n1_ := Aside0.mk (blk_grown BK.out hg (Kd.R_ne HO.out BK.out (by decide))); have n2_ := Aside0.mk hb; clear HO BK HB; have HO := n0_; have BK := n1_; have HB := n2_; clear n0_ n1_ n2_; clear ho hb hg hat)
      | (go_at_call 19; refine (counts_any gb _).mono ?_; rintro e w5 ⟨rfl, hb⟩; have n0_ := Aside0.mk (Kd.R_below HO.out hb); have n1_ := Aside0.mk (blk_below BK.out hb); have n2_ := Aside0.mk (below_step HB.out hb); clear HO BK HB; have HO := n0_; have BK := n1_; have HB := n2_; clear n0_ n1_ n2_; clear hb))
      go_loopg [4, 26] 7 (fun kq v4 v26 w' => ∃ (i : Nat) (x : List Int), v26 = .int .i64 i ∧ Aside0 (kq + i = 7 ∧ i ≤ 6) ∧ Aside0 (putN k ([a0_1, a0_2, a0_3, a0_4, a0_5, a0_6].drop i) x = some b) ∧ Aside0 (Kd.R (Kd.int .u8) 5 w' w.heap.size (fun _ => True) v4 x) ∧ Aside0 (w'.heap[gb]? = some (.cells #[.int .i64 a0_0, .int .i64 a0_1, .int .i64 a0_2, .int .i64 a0_3, .int .i64 a0_4, .int .i64 a0_5, .int .i64 a0_6] 23 (0, 0))) ∧ Aside0 (Below w.heap.size w w'))
      case atStart => exact ⟨0, _, rfl, ⟨by omega, by omega⟩, HP, HO, BK, HB⟩
      case round =>
        clear HP HO BK HB
        obtain ⟨i, x, rfl, HI, HP, HO, BK, HB⟩ := hrel
        obtain ⟨hi1, hi2⟩ := HI.out
        by_cases c6 : i < 6
        · have c6b : decide ((i : Int) < 6) = true := decide_eq_true (by omega)
          have hidx := fun W => idx_six gb i c6 W
          obtain ⟨ai, hai⟩ : ∃ z : Int, z = [a0_1, a0_2, a0_3, a0_4, a0_5, a0_6].getD i 0 := ⟨_, rfl⟩
          have hdrop : [a0_1, a0_2, a0_3, a0_4, a0_5, a0_6].drop i = ai :: [a0_1, a0_2, a0_3, a0_4, a0_5, a0_6].drop (i + 1) := by
            subst hai
            obtain rfl | rfl | rfl | rfl | rfl | rfl : i = 0 ∨ i = 1 ∨ i = 2 ∨ i = 3 ∨ i = 4 ∨ i = 5 := by omega
            all_goals rfl
          have hld : wr.cell? ⟨gb, i + 1, none⟩ = some (.int .i64 ai) := by
            rw [blk_cell BK.out (i + 1)]
            subst hai
            obtain rfl | rfl | rfl | rfl | rfl | rfl : i = 0 ∨ i = 1 ∨ i = 2 ∨ i = 3 ∨ i = 4 ∨ i = 5 := by omega
            all_goals rfl
          have HP2 := HP.out
          rw [hdrop] at HP2
          clear HP hdrop hai
          obtain ⟨y, HY0, HP3⟩ := Option.bind_eq_some_iff.mp (show (octets_Put.f k x 4 (IntKind.u64.wrap ai)).bind (putN k _) = some b from HP2)
          have HY := Aside0.mk HY0
          have HP := Aside0.mk HP3
          clear HY0 HP2 HP3
          obtain ⟨A, c, rfl⟩ := Kd.R_slice HO.out
          have hw : IntKind.i64.wrap ((i : Int) + 1) = ((i + 1 : Nat) : Int) := by rw [i64_w]; unfold wrap64; omega
          go_wp2_with (go_at_call 20; refine (octets_Put.calls k A c x 4 (IntKind.u64.wrap ai) y _ (Kd.R_reads' HO.out).2.2 (Kd.R_reads' HO.out).2.1 HY.out).mono ?_; rintro e w6 ⟨v6, rfl, ho, hb⟩; have n0_ := Aside0.mk (Kd.R_lower ho (below_size HB.out)); have n1_ := Aside0.mk (blk_below BK.out hb); have n2_ := Aside0.mk (below_step HB.out hb); clear HO BK HB; have HO := n0_; have BK := n1_; have HB := n2_; clear n0_ n1_ n2_; clear ho hb)
          go_roundg (6 - i)
          case measure => omega
          case rel => exact ⟨i + 1, y, (by simp), ⟨by omega, by omega⟩, HP, HO, BK, HB⟩
        · have c6b : decide ((i : Int) < 6) = false := decide_eq_false (by omega)
          obtain rfl : i = 6 := by omega
          obtain rfl : x = b := by have h_ := HP.out; simpa [putN] using h_
          go_wp2
          go_ret2
          exact ⟨_, rfl, HO.out, HB.out⟩
  · obtain rfl : t = false := by simpa using ct
    rw [if_neg ct] at H
    obtain ⟨rfl, rfl⟩ : [] = r1 ∧ (1 : Int) = r2 := by simpa using H
    clear H
    go_enter Try.func12, Try.ntmps12
    go_wp2_with (first
      | ((with_reducible refine gate_dst (N := 1) rfl ?_); refine box_event ?hg (N := 1) ?hd (cs := #[.int .i64 a0_0, .int .i64 a0_1, .int .i64 a0_2, .int .i64 a0_3, .int .i64 a0_4, .int .i64 a0_5, .int .i64 a0_6]) (t := 23) ?hr ?_; (case hd => rfl); (case hg => rfl); (case hr => first | (go_simp; done) | (go_simp; rfl)); intro gb hg w1 hbox hb; have BK := Aside0.mk hbox; have GE := Aside0.mk (show w.heap.size ≤ gb by omega); have n0_ := Aside0.mk (below_step HB.out hb); clear HB; have HB := n0_; clear n0_; clear hb hbox hg; have hc0 : w1.cell? ⟨gb, 0, none⟩ = some (.int .i64 a0_0) := (blk_cell BK.out 0).trans rfl; have hc1 : w1.cell? ⟨gb, 1, none⟩ = some (.int .i64 a0_1) := (blk_cell BK.out 1).trans rfl; have hc2 : w1.cell? ⟨gb, 2, none⟩ = some (.int .i64 a0_2) := (blk_cell BK.out 2).trans rfl; have hc3 : w1.cell? ⟨gb, 3, none⟩ = some (.int .i64 a0_3) := (blk_cell BK.out 3).trans rfl; have hc4 : w1.cell? ⟨gb, 4, none⟩ = some (.int .i64 a0_4) := (blk_cell BK.out 4).trans rfl; have hc5 : w1.cell? ⟨gb, 5, none⟩ = some (.int .i64 a0_5) := (blk_cell BK.out 5).trans rfl; have hc6 : w1.cell? ⟨gb, 6, none⟩ = some (.int .i64 a0_6) := (blk_cell BK.out 6).trans rfl)
      | ((with_reducible refine gate_callee (f := 13) rfl ?_); refine goesL_ (some 8) rfl rfl Try.func13 (by kernel_rfl) rfl #[.agg #[.int .i64 a0_0, .int .i64 a0_1, .int .i64 a0_2, .int .i64 a0_3, .int .i64 a0_4, .int .i64 a0_5, .int .i64 a0_6]] rfl (by (try simp only [List.map_toArray, List.map_cons, List.map_nil]); first | done | rfl) ?_; (with_reducible refine (header_Right.calls a0_0 a0_1 a0_2 a0_3 a0_4 a0_5 a0_6 false _ AR.out).mono ?_); rintro e w2 ⟨rfl, hb⟩; refine ⟨_, rfl, ?_⟩; have n0_ := Aside0.mk (blk_below BK.out hb); have n1_ := Aside0.mk (below_step HB.out hb); clear BK; clear HB; have BK := n0_; have HB := n1_; clear n0_ n1_; clear hb; have hd0 : w2.cell? ⟨gb, 0, none⟩ = some (.int .i64 a0_0) := (blk_cell BK.out 0).trans rfl))
    go_ret2
    exact ⟨_, rfl, Kd.R_nil _ _ _ _ _, HB.out⟩
end Go.Proofs.Ytgaibighfmcgoaa.Hand
