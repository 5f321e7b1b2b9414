/- The walk of header.Decode. -/
import Derived.Test.YtgaibighfmcgoaaPHdrAx1
import Derived.Test.YtgaibighfmcgoaaPHdrAx4
import Derived.Test.YtgaibighfmcgoaaEncode
namespace Go.Proofs.Ytgaibighfmcgoaa.Hand
open Go.RowKit Go.Proofs.YtgaibighfmcgoaaW.PrintWords Go.Proofs.YtgaibighfmcgoaaW.PrintLast Go.Proofs.YtgaibighfmcgoaaW.PrintMore Go.Proofs.Ytgaibighfmcgoaa.PHdrA
set_option linter.unusedVariables false
set_option linter.unusedSimpArgs false
section
variable {w w0 : World} {g g' B : Nat} {t : TypeId} {c0 c1 c2 c3 c4 c5 c6 v0 v1 v2 v3 v4 v5 v6 : Value}
theorem put7_at (h : w.heap[g]? = some (.cells #[c0, c1, c2, c3, c4, c5, c6] t (0, 0))) :
    (((((((w.setCell ⟨g, 0, none⟩ v0).setCell ⟨g, 1, none⟩ v1).setCell ⟨g, 2, none⟩ v2).setCell ⟨g, 3, none⟩ v3).setCell ⟨g, 4, none⟩ v4).setCell ⟨g, 5, none⟩ v5).setCell ⟨g, 6, none⟩ v6).heap[g]? = some (.cells #[v0, v1, v2, v3, v4, v5, v6] t (0, 0)) := by
  have h1 := blk_put (cs' := #[v0, c1, c2, c3, c4, c5, c6]) h 0 v0 rfl
  have h2 := blk_put (cs' := #[v0, v1, c2, c3, c4, c5, c6]) h1 1 v1 rfl
  have h3 := blk_put (cs' := #[v0, v1, v2, c3, c4, c5, c6]) h2 2 v2 rfl
  have h4 := blk_put (cs' := #[v0, v1, v2, v3, c4, c5, c6]) h3 3 v3 rfl
  have h5 := blk_put (cs' := #[v0, v1, v2, v3, v4, c5, c6]) h4 4 v4 rfl
  have h6 := blk_put (cs' := #[v0, v1, v2, v3, v4, v5, c6]) h5 5 v5 rfl
  exact blk_put (cs' := #[v0, v1, v2, v3, v4, v5, v6]) h6 6 v6 rfl
theorem put7_far {cs : Array Value} (h : w.heap[g']? = some (.cells cs t (0, 0))) (hn : g' ≠ g) :
    (((((((w.setCell ⟨g, 0, none⟩ v0).setCell ⟨g, 1, none⟩ v1).setCell ⟨g, 2, none⟩ v2).setCell ⟨g, 3, none⟩ v3).setCell ⟨g, 4, none⟩ v4).setCell ⟨g, 5, none⟩ v5).setCell ⟨g, 6, none⟩ v6).heap[g']? = some (.cells cs t (0, 0)) :=
  blk_far (blk_far (blk_far (blk_far (blk_far (blk_far (blk_far h hn v0) hn v1) hn v2) hn v3) hn v4) hn v5) hn v6
theorem put7_below (h : Below w0.heap.size w0 w) (hg : w0.heap.size ≤ g) :
    Below w0.heap.size w0 (((((((w.setCell ⟨g, 0, none⟩ v0).setCell ⟨g, 1, none⟩ v1).setCell ⟨g, 2, none⟩ v2).setCell ⟨g, 3, none⟩ v3).setCell ⟨g, 4, none⟩ v4).setCell ⟨g, 5, none⟩ v5).setCell ⟨g, 6, none⟩ v6) :=
  below_set (below_set (below_set (below_set (below_set (below_set (below_set h hg) hg) hg) hg) hg) hg) hg
end
def hcells (v : Int) (ys : List Int) : Array Value := ((v :: ys).map (Value.int .i64)).toArray
theorem hcells_at {w : World} {g i : Nat} {v : Int} {ys : List Int} {t : TypeId} (h : w.heap[g]? = some (.cells (hcells v ys) t (0, 0))) (hi : i < ys.length) : w.cell? ⟨g, i + 1, none⟩ = some (.int .i64 (ys.getD i 0)) := by
  rw [blk_cell h (i + 1)]
  simp [hcells, hi]
theorem hcells_set {w : World} {g i : Nat} {v x : Int} {ys : List Int} {t : TypeId} (h : w.heap[g]? = some (.cells (hcells v ys) t (0, 0))) : (w.setCell ⟨g, i + 1, none⟩ (.int .i64 x)).heap[g]? = some (.cells (hcells v (ys.set i x)) t (0, 0)) :=
  blk_put h (i + 1) _ (by simp [hcells, List.map_set])
def getN (l0 : List Int) : Nat → Nat → List Int → Option (List Int)
  | 0, _, ys => some ys
  | n + 1, i, ys => (octets_Uint.f l0 (20 + (i : Int) * 4) 4).bind fun r => getN l0 n (i + 1) (ys.set i (wrap64 r.1))
def decVersion (l0 : List Int) : Int := if rd l0 4 = 0 then 1 else wrap64 (wrap64 (rd l0 4) - 48)
def decWrong : Int × Int × Int × Int × Int × Int × Int × Int := (0, 0, 0, 0, 0, 0, 0, 4)
def header_Decode.f (l0 : List Int) : Option (Int × Int × Int × Int × Int × Int × Int × Int) :=
  if l0.length < 44 then some (0, 0, 0, 0, 0, 0, 0, 5) else
  (getN l0 6 0 [0, 0, 0, 0, 0, 0]).bind fun zs => (bytes_HasPrefix.f l0 [84, 90, 105, 102]).bind fun p => if p = true then
    (header_Right.f (decVersion l0) (zs.getD 0 0) (zs.getD 1 0) (zs.getD 2 0) (zs.getD 3 0) (zs.getD 4 0) (zs.getD 5 0)).bind fun q => if q = true then
      (if decVersion l0 = 1 ∧ rd l0 4 ≠ 0 then some decWrong else some (decVersion l0, zs.getD 0 0, zs.getD 1 0, zs.getD 2 0, zs.getD 3 0, zs.getD 4 0, zs.getD 5 0, 0))
      else some decWrong
    else some decWrong
set_option maxHeartbeats 8000000 in
set_option maxRecDepth 100000 in
theorem header_Decode.calls (A0 : Option Addr) (c0 : Nat) (l0 : List Int) (r1 : Int) (r2 : Int) (r3 : Int) (r4 : Int) (r5 : Int) (r6 : Int) (r7 : Int) (r8 : Int) (w : World) (hr0 : Kd.C (Kd.int .u8) w A0 l0.length l0) (hc0 : l0.length ≤ c0) (h : header_Decode.f l0 = some (r1, r2, r3, r4, r5, r6, r7, r8)) :
    Calls Try.prog 17 #[.slice A0 l0.length c0] w fun e w' => e = .returned (.tuple #[.agg #[.int .i64 r1, .int .i64 r2, .int .i64 r3, .int .i64 r4, .int .i64 r5, .int .i64 r6, .int .i64 r7], .int .i64 r8]) ∧ Below w.heap.size w w' := by
  have hu23 := Try.underlying23
  have HR0 := Aside0.mk hr0
  have HC0 := Aside0.mk hc0
  clear hr0 hc0
  have HB := Aside0.mk (Below.refl w.heap.size w)
  unfold header_Decode.f at h
  by_cases c44 : l0.length < 44
  · rw [if_pos c44] at h
    simp only [Option.some.injEq, Prod.mk.injEq] at h
    obtain ⟨rfl, rfl, rfl, rfl, rfl, rfl, rfl, rfl⟩ := h
    have c44a : decide ((l0.length : Int) < 44) = true := decide_eq_true (by omega)
    have c44b : decide (l0.length < 44) = true := decide_eq_true c44
    clear c44
    go_enter Try.func17, Try.ntmps17
    go_wp2_with (first
      | ((with_reducible refine gate_dst (N := 2) rfl ?_); refine box_event ?hg (N := 2) ?hd (cs := #[.int .i64 0, .int .i64 0, .int .i64 0, .int .i64 0, .int .i64 0, .int .i64 0, .int .i64 0]) (t := 23) ?hr ?_; (case hd => rfl); (case hg => rfl); (case hr => first | (go_simp; done) | (go_simp; rfl)); intro g2 hg w1 hbox hb; have B2 := Aside0.mk hbox; have GE2 := Aside0.mk (show w.heap.size ≤ g2 by omega); have n0_ := Aside0.mk (below_step HB.out hb); clear HB; have HB := n0_; clear n0_; clear hb hbox hg;
          have z0 : w1.cell? ⟨g2, 0, none⟩ = some (.int .i64 0) := (blk_cell B2.out 0).trans rfl; have z1 : w1.cell? ⟨g2, 1, none⟩ = some (.int .i64 0) := (blk_cell B2.out 1).trans rfl; have z2 : w1.cell? ⟨g2, 2, none⟩ = some (.int .i64 0) := (blk_cell B2.out 2).trans rfl; have z3 : w1.cell? ⟨g2, 3, none⟩ = some (.int .i64 0) := (blk_cell B2.out 3).trans rfl; have z4 : w1.cell? ⟨g2, 4, none⟩ = some (.int .i64 0) := (blk_cell B2.out 4).trans rfl; have z5 : w1.cell? ⟨g2, 5, none⟩ = some (.int .i64 0) := (blk_cell B2.out 5).trans rfl; have z6 : w1.cell? ⟨g2, 6, none⟩ = some (.int .i64 0) := (blk_cell B2.out 6).trans rfl;
          have f0 := blk_frozen B2.out 0; have f1 := blk_frozen B2.out 1; have f2 := blk_frozen B2.out 2; have f3 := blk_frozen B2.out 3; have f4 := blk_frozen B2.out 4; have f5 := blk_frozen B2.out 5; have f6 := blk_frozen B2.out 6))
    refine bodyPost_ret (results_ct rfl _ _ g2 23 #[.int .i64 0, .int .i64 0, .int .i64 0, .int .i64 0, .int .i64 0, .int .i64 0, .int .i64 0] (0, 0) _ rfl (put7_at B2.out) Try.underlying23 rfl (by kernel_rfl)) rfl ?_
    exact ⟨rfl, put7_below HB.out GE2.out⟩
  · rw [if_neg c44] at h
    obtain ⟨zs, HN0, h⟩ := Option.bind_eq_some_iff.mp h
    obtain ⟨p, HP0, h⟩ := Option.bind_eq_some_iff.mp h
    have HN := Aside0.mk HN0
    have HP := Aside0.mk HP0
    have HH := Aside0.mk h
    clear HN0 HP0 h
    have c44a : decide ((l0.length : Int) < 44) = false := decide_eq_false (by omega)
    have c44b : decide (l0.length < 44) = false := decide_eq_false c44
    have p4 : (0 : Int) ≤ 4 := by decide
    have q4 : (4 : Int) < l0.length := by omega
    obtain ⟨ad, e4, hx4⟩ := Kd.at_int HR0.out 4 p4 q4
    cases e4
    simp only [show (4 : Int).toNat = 4 from rfl, Addr.add, Nat.reduceEqDiff, ↓reduceIte] at hx4
    have hadw : ad.block < w.heap.size := World.block_lt_of_cell? w ⟨ad.block, ad.off + 4, none⟩ hx4
    go_enter Try.func17, Try.ntmps17
    go_upto_if 19 with (first
      | ((with_reducible refine gate_dst (N := 2) rfl ?_); refine box_event ?hg (N := 2) ?hd (cs := #[.int .i64 0, .int .i64 0, .int .i64 0, .int .i64 0, .int .i64 0, .int .i64 0, .int .i64 0]) (t := 23) ?hr ?_; (case hd => rfl); (case hg => rfl); (case hr => first | (go_simp; done) | (go_simp; rfl)); intro g2 hg w1 hbox hb; have B2 := Aside0.mk hbox; have GE2 := Aside0.mk (show w.heap.size ≤ g2 by omega); have n0_ := Aside0.mk (below_step HB.out hb); clear HB; have HB := n0_; clear n0_; clear hb hbox hg)
      | ((with_reducible refine gate_dst (N := 4) rfl ?_); refine box_event ?hg (N := 4) ?hd (cs := #[.int .i64 0, .int .i64 0, .int .i64 0, .int .i64 0, .int .i64 0, .int .i64 0, .int .i64 0]) (t := 23) ?hr ?_; (case hd => rfl); (case hg => rfl); (case hr => first | (go_simp; done) | (go_simp; rfl)); intro gh hg w2 hbox hb; have hne : g2 ≠ gh := (by have := blk_lt B2.out; omega);
          have n1_ := Aside0.mk (blk_below B2.out hb); have BH := Aside0.mk hbox; have GEH := Aside0.mk (show w.heap.size ≤ gh by have := below_size HB.out; omega); have n0_ := Aside0.mk (below_step HB.out hb); clear HB B2; have HB := n0_; have B2 := n1_; clear n0_ n1_; clear hb hbox hg;
          have z0 : w2.cell? ⟨gh, 0, none⟩ = some (.int .i64 0) := (blk_cell BH.out 0).trans rfl; have z1 : w2.cell? ⟨gh, 1, none⟩ = some (.int .i64 0) := (blk_cell BH.out 1).trans rfl; have z2 : w2.cell? ⟨gh, 2, none⟩ = some (.int .i64 0) := (blk_cell BH.out 2).trans rfl; have z3 : w2.cell? ⟨gh, 3, none⟩ = some (.int .i64 0) := (blk_cell BH.out 3).trans rfl; have z4 : w2.cell? ⟨gh, 4, none⟩ = some (.int .i64 0) := (blk_cell BH.out 4).trans rfl; have z5 : w2.cell? ⟨gh, 5, none⟩ = some (.int .i64 0) := (blk_cell BH.out 5).trans rfl; have z6 : w2.cell? ⟨gh, 6, none⟩ = some (.int .i64 0) := (blk_cell BH.out 6).trans rfl; have f0 := blk_frozen BH.out 0; have f1 := blk_frozen BH.out 1; have f2 := blk_frozen BH.out 2; have f3 := blk_frozen BH.out 3; have f4 := blk_frozen BH.out 4; have f5 := blk_frozen BH.out 5; have f6 := blk_frozen BH.out 6;
          have hadn : ad.block ≠ gh := (by have := GEH.out; omega);
          have hx5 := (Below.cell HB.out (p := ⟨ad.block, ad.off + 4, none⟩) hadw).trans hx4))
    (try simp only [Act.put, List.setIfInBounds_toArray, List.set_cons_zero, List.set_cons_succ])
    go_cut [] (fun wc => Aside0 (wc.heap[g2]? = some (.cells #[.int .i64 0, .int .i64 0, .int .i64 0, .int .i64 0, .int .i64 0, .int .i64 0, .int .i64 0] 23 (0, 0))) ∧ Aside0 (wc.heap[gh]? = some (.cells (hcells (decVersion l0) [0, 0, 0, 0, 0, 0]) 23 (0, 0))) ∧ Aside0 (Below w.heap.size w wc))
    case first =>
      by_cases cz : rd l0 4 = 0
      · have czb : (rd l0 4 != 0) = false := bne_eq_false_iff_eq.mpr cz
        have hv : decVersion l0 = 1 := by unfold decVersion; rw [if_pos cz]
        rw [czb]
        go_wp2
        go_meet
        case rel => exact ⟨⟨put7_far B2.out hne⟩, ⟨by rw [hv]; exact put7_at BH.out⟩, ⟨put7_below HB.out GEH.out⟩⟩
      · have czb : (rd l0 4 != 0) = true := bne_iff_ne.mpr cz
        have hv : decVersion l0 = wrap64 (wrap64 (rd l0 4) - 48) := by unfold decVersion; rw [if_neg cz]
        rw [czb]
        go_wp2
        go_meet
        case rel => exact ⟨⟨blk_far (put7_far B2.out hne) hne _⟩, ⟨by rw [hv]; exact blk_put (put7_at BH.out) 0 _ rfl⟩, ⟨below_set (put7_below HB.out GEH.out) GEH.out⟩⟩
    case rest =>
      clear B2 HB BH z0 z1 z2 z3 z4 z5 z6 f0 f1 f2 f3 f4 f5 f6
      obtain ⟨B2, BH, HB⟩ := hcut
      go_wp2_with (go_at_call 19; refine (counts_any gh _).mono ?_; rintro e w5 ⟨rfl, hb⟩; have n0_ := Aside0.mk (blk_below B2.out hb); have n1_ := Aside0.mk (blk_below BH.out hb); have n2_ := Aside0.mk (below_step HB.out hb); clear B2 BH HB; have B2 := n0_; have BH := n1_; have HB := n2_; clear n0_ n1_ n2_; clear hb)
      go_loopg [25] 7 (fun kq v25 w' => ∃ (i : Nat) (ys : List Int), v25 = .int .i64 i ∧ Aside0 (kq + i = 7 ∧ i ≤ 6 ∧ ys.length = 6) ∧ Aside0 (getN l0 (6 - i) i ys = some zs) ∧ Aside0 (w'.heap[g2]? = some (.cells #[.int .i64 0, .int .i64 0, .int .i64 0, .int .i64 0, .int .i64 0, .int .i64 0, .int .i64 0] 23 (0, 0))) ∧ Aside0 (w'.heap[gh]? = some (.cells (hcells (decVersion l0) ys) 23 (0, 0))) ∧ Aside0 (Below w.heap.size w w'))
      case atStart => exact ⟨0, [0, 0, 0, 0, 0, 0], rfl, ⟨by omega, by omega, rfl⟩, HN, B2, BH, HB⟩
      case round =>
        clear HN B2 BH HB
        obtain ⟨i, ys, rfl, HI, HN, B2, BH, HB⟩ := hrel
        obtain ⟨hi1, hi2, hi3⟩ := HI.out
        by_cases c6 : i < 6
        · have c6b : decide ((i : Int) < 6) = true := decide_eq_true (by omega)
          have hidx := fun W => idx_six gh i c6 W
          obtain ⟨n, hn⟩ : ∃ n, 6 - i = n + 1 := ⟨5 - i, by omega⟩
          have HN2 := HN.out
          rw [hn] at HN2
          obtain ⟨⟨x, xok⟩, HX0, HN3⟩ := Option.bind_eq_some_iff.mp (show (octets_Uint.f l0 (20 + (i : Int) * 4) 4).bind _ = some zs from HN2)
          have HX := Aside0.mk HX0
          have hw1 : IntKind.i64.wrap ((i : Int) * 4) = (i : Int) * 4 := by rw [i64_w]; unfold wrap64; omega
          have hw2 : IntKind.i64.wrap (20 + (i : Int) * 4) = 20 + (i : Int) * 4 := by rw [i64_w]; unfold wrap64; omega
          have hw3 : IntKind.i64.wrap ((i : Int) + 1) = (i : Int) + 1 := by rw [i64_w]; unfold wrap64; omega
          have hst := hcells_at (v := decVersion l0) BH.out (i := i) (by omega)
          have hfr := blk_frozen BH.out (i + 1)
          clear HX0 HN2
          go_wp2_with (go_at_call 23; refine (octets_Uint.calls _ c0 l0 (20 + (i : Int) * 4) 4 x xok _ (Kd.C_below HR0.out HB.out) HC0.out HX.out).mono ?_; rintro e w6 ⟨rfl, ⟨nd, rfl⟩⟩)
          go_roundg (6 - i)
          case measure => omega
          case rel => exact ⟨i + 1, ys.set i (wrap64 x), (by simp), ⟨by omega, by omega, by rw [List.length_set]; exact hi3⟩, ⟨by rw [show 6 - (i + 1) = n by omega]; exact HN3⟩, ⟨blk_far B2.out hne _⟩, ⟨hcells_set BH.out⟩, ⟨below_set (below_step HB.out (by repeat (first | exact Below.refl _ _ | apply pw_below_drewN))) GEH.out⟩⟩
        · have c6b : decide ((i : Int) < 6) = false := decide_eq_false (by omega)
          obtain rfl : i = 6 := by omega
          obtain rfl : ys = zs := by have h_ := HN.out; simpa [getN] using h_
          obtain ⟨x1, x2, x3, x4, x5, x6, rfl⟩ : ∃ x1 x2 x3 x4 x5 x6, ys = [x1, x2, x3, x4, x5, x6] := by
            match ys, hi3 with
            | [x1, x2, x3, x4, x5, x6], _ => exact ⟨x1, x2, x3, x4, x5, x6, rfl⟩
          obtain ⟨v, hv⟩ : ∃ v, v = decVersion l0 := ⟨_, rfl⟩
          rw [← hv] at BH
          have H := HH.out
          clear HH HN
          rw [← hv] at H
          clear hv
          replace BH := Aside0.mk (show wr.heap[gh]? = some (.cells #[.int .i64 v, .int .i64 x1, .int .i64 x2, .int .i64 x3, .int .i64 x4, .int .i64 x5, .int .i64 x6] 23 (0, 0)) from BH.out)
          by_cases cp : p = true
          · rw [if_pos cp] at H
            subst cp
            obtain ⟨q, HQ0, H⟩ := Option.bind_eq_some_iff.mp H
            have HQ := Aside0.mk (show header_Right.f v x1 x2 x3 x4 x5 x6 = some q from HQ0)
            clear HQ0
            by_cases cq : q = true
            · rw [if_pos cq] at H
              subst cq
              by_cases cv : v = 1
              · by_cases cc : rd l0 4 = 0
                · rw [if_neg (by simp [cc])] at H
                  simp only [Option.some.injEq, Prod.mk.injEq] at H
                  obtain ⟨rfl, rfl, rfl, rfl, rfl, rfl, rfl, rfl⟩ := H
                  have k1 : (v == 1) = true := beq_iff_eq.mpr cv
                  have k2 : (rd l0 4 != 0) = false := bne_eq_false_iff_eq.mpr cc
                  clear cv cc
                  go_wp2_with (first
                    | ((with_reducible refine gate_dst (N := 43) rfl ?_); refine R_lit_marked 28 5 ?hg ?hg2 (N := 43) ?ho2 Try.underlying28 Try.underlying5 (n := 4) (inner := [.int .u8 84, .int .u8 90, .int .u8 105, .int .u8 102]) ?hev ?hr ?_; (case hg => rfl); (case hg2 => rfl); (case ho2 => rfl); (case hev => intro v_; first | (go_simp; done) | (go_simp; rfl) | rfl); (case hr => first | (go_simp; done) | (go_simp; rfl)); intro gm w3 hgm hm hb; clear hgm; have BM := Aside0.mk hm; have n0_ := Aside0.mk (blk_below B2.out hb); have n1_ := Aside0.mk (blk_below BH.out hb); have n2_ := Aside0.mk (below_step HB.out hb); clear B2 BH HB; have B2 := n0_; have BH := n1_; have HB := n2_; clear n0_ n1_ n2_; clear hb hm; have a0 : w3.cell? ⟨gh, 0, none⟩ = some (.int .i64 v) := (blk_cell BH.out 0).trans rfl; have a1 : w3.cell? ⟨gh, 1, none⟩ = some (.int .i64 x1) := (blk_cell BH.out 1).trans rfl; have a2 : w3.cell? ⟨gh, 2, none⟩ = some (.int .i64 x2) := (blk_cell BH.out 2).trans rfl; have a3 : w3.cell? ⟨gh, 3, none⟩ = some (.int .i64 x3) := (blk_cell BH.out 3).trans rfl; have a4 : w3.cell? ⟨gh, 4, none⟩ = some (.int .i64 x4) := (blk_cell BH.out 4).trans rfl; have a5 : w3.cell? ⟨gh, 5, none⟩ = some (.int .i64 x5) := (blk_cell BH.out 5).trans rfl; have a6 : w3.cell? ⟨gh, 6, none⟩ = some (.int .i64 x6) := (blk_cell BH.out 6).trans rfl; have b0 : w3.cell? ⟨g2, 0, none⟩ = some (.int .i64 0) := (blk_cell B2.out 0).trans rfl; have b1 : w3.cell? ⟨g2, 1, none⟩ = some (.int .i64 0) := (blk_cell B2.out 1).trans rfl; have b2 : w3.cell? ⟨g2, 2, none⟩ = some (.int .i64 0) := (blk_cell B2.out 2).trans rfl; have b3 : w3.cell? ⟨g2, 3, none⟩ = some (.int .i64 0) := (blk_cell B2.out 3).trans rfl; have b4 : w3.cell? ⟨g2, 4, none⟩ = some (.int .i64 0) := (blk_cell B2.out 4).trans rfl; have b5 : w3.cell? ⟨g2, 5, none⟩ = some (.int .i64 0) := (blk_cell B2.out 5).trans rfl; have b6 : w3.cell? ⟨g2, 6, none⟩ = some (.int .i64 0) := (blk_cell B2.out 6).trans rfl; have d0 := blk_frozen B2.out 0; have d1 := blk_frozen B2.out 1; have d2 := blk_frozen B2.out 2; have d3 := blk_frozen B2.out 3; have d4 := blk_frozen B2.out 4; have d5 := blk_frozen B2.out 5; have d6 := blk_frozen B2.out 6)
                    | (go_at_call 24; refine (bytes_HasPrefix.calls _ c0 l0 (some ⟨gm, 0, none⟩) 4 [84, 90, 105, 102] true _ (Kd.C_below HR0.out HB.out) HC0.out (C_marked BM.out rfl (by decide)) (by decide) HP.out).mono ?_; rintro e w7 ⟨rfl, ⟨nd, rfl⟩⟩; have n2_ := Aside0.mk (show Below w.heap.size w (w3.drewN nd) from below_step HB.out (by repeat (first | exact Below.refl _ _ | apply pw_below_drewN))); clear HB; have HB := n2_; clear n2_)
                    | (go_at_call 13; refine (header_Right.calls v x1 x2 x3 x4 x5 x6 true _ HQ.out).mono ?_; rintro e w8 ⟨rfl, hb⟩; have n0_ := Aside0.mk (blk_below (w1 := w8) (show (w3.drewN nd).heap[g2]? = _ from B2.out) hb); have n1_ := Aside0.mk (blk_below (w1 := w8) (show (w3.drewN nd).heap[gh]? = _ from BH.out) hb); have n2_ := Aside0.mk (below_step HB.out hb); clear B2 BH HB; have B2 := n0_; have BH := n1_; have HB := n2_; clear n0_ n1_ n2_; clear hb; have h0 : w8.cell? ⟨gh, 0, none⟩ = some (.int .i64 v) := (blk_cell BH.out 0).trans rfl; have h1 : w8.cell? ⟨gh, 1, none⟩ = some (.int .i64 x1) := (blk_cell BH.out 1).trans rfl; have h2 : w8.cell? ⟨gh, 2, none⟩ = some (.int .i64 x2) := (blk_cell BH.out 2).trans rfl; have h3 : w8.cell? ⟨gh, 3, none⟩ = some (.int .i64 x3) := (blk_cell BH.out 3).trans rfl; have h4 : w8.cell? ⟨gh, 4, none⟩ = some (.int .i64 x4) := (blk_cell BH.out 4).trans rfl; have h5 : w8.cell? ⟨gh, 5, none⟩ = some (.int .i64 x5) := (blk_cell BH.out 5).trans rfl; have h6 : w8.cell? ⟨gh, 6, none⟩ = some (.int .i64 x6) := (blk_cell BH.out 6).trans rfl; have k0 : w8.cell? ⟨g2, 0, none⟩ = some (.int .i64 0) := (blk_cell B2.out 0).trans rfl; have k1 : w8.cell? ⟨g2, 1, none⟩ = some (.int .i64 0) := (blk_cell B2.out 1).trans rfl; have k2 : w8.cell? ⟨g2, 2, none⟩ = some (.int .i64 0) := (blk_cell B2.out 2).trans rfl; have k3 : w8.cell? ⟨g2, 3, none⟩ = some (.int .i64 0) := (blk_cell B2.out 3).trans rfl; have k4 : w8.cell? ⟨g2, 4, none⟩ = some (.int .i64 0) := (blk_cell B2.out 4).trans rfl; have k5 : w8.cell? ⟨g2, 5, none⟩ = some (.int .i64 0) := (blk_cell B2.out 5).trans rfl; have k6 : w8.cell? ⟨g2, 6, none⟩ = some (.int .i64 0) := (blk_cell B2.out 6).trans rfl; have m0 := blk_frozen B2.out 0; have m1 := blk_frozen B2.out 1; have m2 := blk_frozen B2.out 2; have m3 := blk_frozen B2.out 3; have m4 := blk_frozen B2.out 4; have m5 := blk_frozen B2.out 5; have m6 := blk_frozen B2.out 6; have hx6 := (Below.cell HB.out (p := ⟨ad.block, ad.off + 4, none⟩) hadw).trans hx4))
                  refine bodyPost_ret (results_ct rfl _ _ g2 23 #[.int .i64 v, .int .i64 x1, .int .i64 x2, .int .i64 x3, .int .i64 x4, .int .i64 x5, .int .i64 x6] (0, 0) _ rfl (put7_at B2.out) Try.underlying23 rfl (by kernel_rfl)) rfl ?_
                  exact ⟨rfl, put7_below HB.out GE2.out⟩
                · rw [if_pos ⟨cv, cc⟩] at H
                  simp only [decWrong, Option.some.injEq, Prod.mk.injEq] at H
                  obtain ⟨rfl, rfl, rfl, rfl, rfl, rfl, rfl, rfl⟩ := H
                  have k1 : (v == 1) = true := beq_iff_eq.mpr cv
                  have k2 : (rd l0 4 != 0) = true := bne_iff_ne.mpr cc
                  clear cv cc
                  go_wp2_with (first
                    | ((with_reducible refine gate_dst (N := 43) rfl ?_); refine R_lit_marked 28 5 ?hg ?hg2 (N := 43) ?ho2 Try.underlying28 Try.underlying5 (n := 4) (inner := [.int .u8 84, .int .u8 90, .int .u8 105, .int .u8 102]) ?hev ?hr ?_; (case hg => rfl); (case hg2 => rfl); (case ho2 => rfl); (case hev => intro v_; first | (go_simp; done) | (go_simp; rfl) | rfl); (case hr => first | (go_simp; done) | (go_simp; rfl)); intro gm w3 hgm hm hb; clear hgm; have BM := Aside0.mk hm; have n0_ := Aside0.mk (blk_below B2.out hb); have n1_ := Aside0.mk (blk_below BH.out hb); have n2_ := Aside0.mk (below_step HB.out hb); clear B2 BH HB; have B2 := n0_; have BH := n1_; have HB := n2_; clear n0_ n1_ n2_; clear hb hm; have a0 : w3.cell? ⟨gh, 0, none⟩ = some (.int .i64 v) := (blk_cell BH.out 0).trans rfl; have a1 : w3.cell? ⟨gh, 1, none⟩ = some (.int .i64 x1) := (blk_cell BH.out 1).trans rfl; have a2 : w3.cell? ⟨gh, 2, none⟩ = some (.int .i64 x2) := (blk_cell BH.out 2).trans rfl; have a3 : w3.cell? ⟨gh, 3, none⟩ = some (.int .i64 x3) := (blk_cell BH.out 3).trans rfl; have a4 : w3.cell? ⟨gh, 4, none⟩ = some (.int .i64 x4) := (blk_cell BH.out 4).trans rfl; have a5 : w3.cell? ⟨gh, 5, none⟩ = some (.int .i64 x5) := (blk_cell BH.out 5).trans rfl; have a6 : w3.cell? ⟨gh, 6, none⟩ = some (.int .i64 x6) := (blk_cell BH.out 6).trans rfl; have b0 : w3.cell? ⟨g2, 0, none⟩ = some (.int .i64 0) := (blk_cell B2.out 0).trans rfl; have b1 : w3.cell? ⟨g2, 1, none⟩ = some (.int .i64 0) := (blk_cell B2.out 1).trans rfl; have b2 : w3.cell? ⟨g2, 2, none⟩ = some (.int .i64 0) := (blk_cell B2.out 2).trans rfl; have b3 : w3.cell? ⟨g2, 3, none⟩ = some (.int .i64 0) := (blk_cell B2.out 3).trans rfl; have b4 : w3.cell? ⟨g2, 4, none⟩ = some (.int .i64 0) := (blk_cell B2.out 4).trans rfl; have b5 : w3.cell? ⟨g2, 5, none⟩ = some (.int .i64 0) := (blk_cell B2.out 5).trans rfl; have b6 : w3.cell? ⟨g2, 6, none⟩ = some (.int .i64 0) := (blk_cell B2.out 6).trans rfl; have d0 := blk_frozen B2.out 0; have d1 := blk_frozen B2.out 1; have d2 := blk_frozen B2.out 2; have d3 := blk_frozen B2.out 3; have d4 := blk_frozen B2.out 4; have d5 := blk_frozen B2.out 5; have d6 := blk_frozen B2.out 6)
                    | (go_at_call 24; refine (bytes_HasPrefix.calls _ c0 l0 (some ⟨gm, 0, none⟩) 4 [84, 90, 105, 102] true _ (Kd.C_below HR0.out HB.out) HC0.out (C_marked BM.out rfl (by decide)) (by decide) HP.out).mono ?_; rintro e w7 ⟨rfl, ⟨nd, rfl⟩⟩; have n2_ := Aside0.mk (show Below w.heap.size w (w3.drewN nd) from below_step HB.out (by repeat (first | exact Below.refl _ _ | apply pw_below_drewN))); clear HB; have HB := n2_; clear n2_)
                    | (go_at_call 13; refine (header_Right.calls v x1 x2 x3 x4 x5 x6 true _ HQ.out).mono ?_; rintro e w8 ⟨rfl, hb⟩; have n0_ := Aside0.mk (blk_below (w1 := w8) (show (w3.drewN nd).heap[g2]? = _ from B2.out) hb); have n1_ := Aside0.mk (blk_below (w1 := w8) (show (w3.drewN nd).heap[gh]? = _ from BH.out) hb); have n2_ := Aside0.mk (below_step HB.out hb); clear B2 BH HB; have B2 := n0_; have BH := n1_; have HB := n2_; clear n0_ n1_ n2_; clear hb; have h0 : w8.cell? ⟨gh, 0, none⟩ = some (.int .i64 v) := (blk_cell BH.out 0).trans rfl; have h1 : w8.cell? ⟨gh, 1, none⟩ = some (.int .i64 x1) := (blk_cell BH.out 1).trans rfl; have h2 : w8.cell? ⟨gh, 2, none⟩ = some (.int .i64 x2) := (blk_cell BH.out 2).trans rfl; have h3 : w8.cell? ⟨gh, 3, none⟩ = some (.int .i64 x3) := (blk_cell BH.out 3).trans rfl; have h4 : w8.cell? ⟨gh, 4, none⟩ = some (.int .i64 x4) := (blk_cell BH.out 4).trans rfl; have h5 : w8.cell? ⟨gh, 5, none⟩ = some (.int .i64 x5) := (blk_cell BH.out 5).trans rfl; have h6 : w8.cell? ⟨gh, 6, none⟩ = some (.int .i64 x6) := (blk_cell BH.out 6).trans rfl; have k0 : w8.cell? ⟨g2, 0, none⟩ = some (.int .i64 0) := (blk_cell B2.out 0).trans rfl; have k1 : w8.cell? ⟨g2, 1, none⟩ = some (.int .i64 0) := (blk_cell B2.out 1).trans rfl; have k2 : w8.cell? ⟨g2, 2, none⟩ = some (.int .i64 0) := (blk_cell B2.out 2).trans rfl; have k3 : w8.cell? ⟨g2, 3, none⟩ = some (.int .i64 0) := (blk_cell B2.out 3).trans rfl; have k4 : w8.cell? ⟨g2, 4, none⟩ = some (.int .i64 0) := (blk_cell B2.out 4).trans rfl; have k5 : w8.cell? ⟨g2, 5, none⟩ = some (.int .i64 0) := (blk_cell B2.out 5).trans rfl; have k6 : w8.cell? ⟨g2, 6, none⟩ = some (.int .i64 0) := (blk_cell B2.out 6).trans rfl; have m0 := blk_frozen B2.out 0; have m1 := blk_frozen B2.out 1; have m2 := blk_frozen B2.out 2; have m3 := blk_frozen B2.out 3; have m4 := blk_frozen B2.out 4; have m5 := blk_frozen B2.out 5; have m6 := blk_frozen B2.out 6; have hx6 := (Below.cell HB.out (p := ⟨ad.block, ad.off + 4, none⟩) hadw).trans hx4))
                  refine bodyPost_ret (results_ct rfl _ _ g2 23 #[.int .i64 0, .int .i64 0, .int .i64 0, .int .i64 0, .int .i64 0, .int .i64 0, .int .i64 0] (0, 0) _ rfl (put7_at B2.out) Try.underlying23 rfl (by kernel_rfl)) rfl ?_
                  exact ⟨rfl, put7_below HB.out GE2.out⟩
              · rw [if_neg (fun h_ => cv h_.1)] at H
                simp only [Option.some.injEq, Prod.mk.injEq] at H
                obtain ⟨rfl, rfl, rfl, rfl, rfl, rfl, rfl, rfl⟩ := H
                have k1 : (v == 1) = false := beq_eq_false_iff_ne.mpr cv
                clear cv
                go_wp2_with (first
                  | ((with_reducible refine gate_dst (N := 43) rfl ?_); refine R_lit_marked 28 5 ?hg ?hg2 (N := 43) ?ho2 Try.underlying28 Try.underlying5 (n := 4) (inner := [.int .u8 84, .int .u8 90, .int .u8 105, .int .u8 102]) ?hev ?hr ?_; (case hg => rfl); (case hg2 => rfl); (case ho2 => rfl); (case hev => intro v_; first | (go_simp; done) | (go_simp; rfl) | rfl); (case hr => first | (go_simp; done) | (go_simp; rfl)); intro gm w3 hgm hm hb; clear hgm; have BM := Aside0.mk hm; have n0_ := Aside0.mk (blk_below B2.out hb); have n1_ := Aside0.mk (blk_below BH.out hb); have n2_ := Aside0.mk (below_step HB.out hb); clear B2 BH HB; have B2 := n0_; have BH := n1_; have HB := n2_; clear n0_ n1_ n2_; clear hb hm; have a0 : w3.cell? ⟨gh, 0, none⟩ = some (.int .i64 v) := (blk_cell BH.out 0).trans rfl; have a1 : w3.cell? ⟨gh, 1, none⟩ = some (.int .i64 x1) := (blk_cell BH.out 1).trans rfl; have a2 : w3.cell? ⟨gh, 2, none⟩ = some (.int .i64 x2) := (blk_cell BH.out 2).trans rfl; have a3 : w3.cell? ⟨gh, 3, none⟩ = some (.int .i64 x3) := (blk_cell BH.out 3).trans rfl; have a4 : w3.cell? ⟨gh, 4, none⟩ = some (.int .i64 x4) := (blk_cell BH.out 4).trans rfl; have a5 : w3.cell? ⟨gh, 5, none⟩ = some (.int .i64 x5) := (blk_cell BH.out 5).trans rfl; have a6 : w3.cell? ⟨gh, 6, none⟩ = some (.int .i64 x6) := (blk_cell BH.out 6).trans rfl; have b0 : w3.cell? ⟨g2, 0, none⟩ = some (.int .i64 0) := (blk_cell B2.out 0).trans rfl; have b1 : w3.cell? ⟨g2, 1, none⟩ = some (.int .i64 0) := (blk_cell B2.out 1).trans rfl; have b2 : w3.cell? ⟨g2, 2, none⟩ = some (.int .i64 0) := (blk_cell B2.out 2).trans rfl; have b3 : w3.cell? ⟨g2, 3, none⟩ = some (.int .i64 0) := (blk_cell B2.out 3).trans rfl; have b4 : w3.cell? ⟨g2, 4, none⟩ = some (.int .i64 0) := (blk_cell B2.out 4).trans rfl; have b5 : w3.cell? ⟨g2, 5, none⟩ = some (.int .i64 0) := (blk_cell B2.out 5).trans rfl; have b6 : w3.cell? ⟨g2, 6, none⟩ = some (.int .i64 0) := (blk_cell B2.out 6).trans rfl; have d0 := blk_frozen B2.out 0; have d1 := blk_frozen B2.out 1; have d2 := blk_frozen B2.out 2; have d3 := blk_frozen B2.out 3; have d4 := blk_frozen B2.out 4; have d5 := blk_frozen B2.out 5; have d6 := blk_frozen B2.out 6)
                  | (go_at_call 24; refine (bytes_HasPrefix.calls _ c0 l0 (some ⟨gm, 0, none⟩) 4 [84, 90, 105, 102] true _ (Kd.C_below HR0.out HB.out) HC0.out (C_marked BM.out rfl (by decide)) (by decide) HP.out).mono ?_; rintro e w7 ⟨rfl, ⟨nd, rfl⟩⟩; have n2_ := Aside0.mk (show Below w.heap.size w (w3.drewN nd) from below_step HB.out (by repeat (first | exact Below.refl _ _ | apply pw_below_drewN))); clear HB; have HB := n2_; clear n2_)
                  | (go_at_call 13; refine (header_Right.calls v x1 x2 x3 x4 x5 x6 true _ HQ.out).mono ?_; rintro e w8 ⟨rfl, hb⟩; have n0_ := Aside0.mk (blk_below (w1 := w8) (show (w3.drewN nd).heap[g2]? = _ from B2.out) hb); have n1_ := Aside0.mk (blk_below (w1 := w8) (show (w3.drewN nd).heap[gh]? = _ from BH.out) hb); have n2_ := Aside0.mk (below_step HB.out hb); clear B2 BH HB; have B2 := n0_; have BH := n1_; have HB := n2_; clear n0_ n1_ n2_; clear hb; have h0 : w8.cell? ⟨gh, 0, none⟩ = some (.int .i64 v) := (blk_cell BH.out 0).trans rfl; have h1 : w8.cell? ⟨gh, 1, none⟩ = some (.int .i64 x1) := (blk_cell BH.out 1).trans rfl; have h2 : w8.cell? ⟨gh, 2, none⟩ = some (.int .i64 x2) := (blk_cell BH.out 2).trans rfl; have h3 : w8.cell? ⟨gh, 3, none⟩ = some (.int .i64 x3) := (blk_cell BH.out 3).trans rfl; have h4 : w8.cell? ⟨gh, 4, none⟩ = some (.int .i64 x4) := (blk_cell BH.out 4).trans rfl; have h5 : w8.cell? ⟨gh, 5, none⟩ = some (.int .i64 x5) := (blk_cell BH.out 5).trans rfl; have h6 : w8.cell? ⟨gh, 6, none⟩ = some (.int .i64 x6) := (blk_cell BH.out 6).trans rfl; have k0 : w8.cell? ⟨g2, 0, none⟩ = some (.int .i64 0) := (blk_cell B2.out 0).trans rfl; have k1 : w8.cell? ⟨g2, 1, none⟩ = some (.int .i64 0) := (blk_cell B2.out 1).trans rfl; have k2 : w8.cell? ⟨g2, 2, none⟩ = some (.int .i64 0) := (blk_cell B2.out 2).trans rfl; have k3 : w8.cell? ⟨g2, 3, none⟩ = some (.int .i64 0) := (blk_cell B2.out 3).trans rfl; have k4 : w8.cell? ⟨g2, 4, none⟩ = some (.int .i64 0) := (blk_cell B2.out 4).trans rfl; have k5 : w8.cell? ⟨g2, 5, none⟩ = some (.int .i64 0) := (blk_cell B2.out 5).trans rfl; have k6 : w8.cell? ⟨g2, 6, none⟩ = some (.int .i64 0) := (blk_cell B2.out 6).trans rfl; have m0 := blk_frozen B2.out 0; have m1 := blk_frozen B2.out 1; have m2 := blk_frozen B2.out 2; have m3 := blk_frozen B2.out 3; have m4 := blk_frozen B2.out 4; have m5 := blk_frozen B2.out 5; have m6 := blk_frozen B2.out 6; have hx6 := (Below.cell HB.out (p := ⟨ad.block, ad.off + 4, none⟩) hadw).trans hx4))
                refine bodyPost_ret (results_ct rfl _ _ g2 23 #[.int .i64 v, .int .i64 x1, .int .i64 x2, .int .i64 x3, .int .i64 x4, .int .i64 x5, .int .i64 x6] (0, 0) _ rfl (put7_at B2.out) Try.underlying23 rfl (by kernel_rfl)) rfl ?_
                exact ⟨rfl, put7_below HB.out GE2.out⟩
            · rw [if_neg cq] at H
              obtain rfl : q = false := by simpa using cq
              simp only [decWrong, Option.some.injEq, Prod.mk.injEq] at H
              obtain ⟨rfl, rfl, rfl, rfl, rfl, rfl, rfl, rfl⟩ := H
              go_wp2_with (first
                | ((with_reducible refine gate_dst (N := 43) rfl ?_); refine R_lit_marked 28 5 ?hg ?hg2 (N := 43) ?ho2 Try.underlying28 Try.underlying5 (n := 4) (inner := [.int .u8 84, .int .u8 90, .int .u8 105, .int .u8 102]) ?hev ?hr ?_; (case hg => rfl); (case hg2 => rfl); (case ho2 => rfl); (case hev => intro v_; first | (go_simp; done) | (go_simp; rfl) | rfl); (case hr => first | (go_simp; done) | (go_simp; rfl)); intro gm w3 hgm hm hb; clear hgm; have BM := Aside0.mk hm; have n0_ := Aside0.mk (blk_below B2.out hb); have n1_ := Aside0.mk (blk_below BH.out hb); have n2_ := Aside0.mk (below_step HB.out hb); clear B2 BH HB; have B2 := n0_; have BH := n1_; have HB := n2_; clear n0_ n1_ n2_; clear hb hm; have a0 : w3.cell? ⟨gh, 0, none⟩ = some (.int .i64 v) := (blk_cell BH.out 0).trans rfl; have a1 : w3.cell? ⟨gh, 1, none⟩ = some (.int .i64 x1) := (blk_cell BH.out 1).trans rfl; have a2 : w3.cell? ⟨gh, 2, none⟩ = some (.int .i64 x2) := (blk_cell BH.out 2).trans rfl; have a3 : w3.cell? ⟨gh, 3, none⟩ = some (.int .i64 x3) := (blk_cell BH.out 3).trans rfl; have a4 : w3.cell? ⟨gh, 4, none⟩ = some (.int .i64 x4) := (blk_cell BH.out 4).trans rfl; have a5 : w3.cell? ⟨gh, 5, none⟩ = some (.int .i64 x5) := (blk_cell BH.out 5).trans rfl; have a6 : w3.cell? ⟨gh, 6, none⟩ = some (.int .i64 x6) := (blk_cell BH.out 6).trans rfl; have b0 : w3.cell? ⟨g2, 0, none⟩ = some (.int .i64 0) := (blk_cell B2.out 0).trans rfl; have b1 : w3.cell? ⟨g2, 1, none⟩ = some (.int .i64 0) := (blk_cell B2.out 1).trans rfl; have b2 : w3.cell? ⟨g2, 2, none⟩ = some (.int .i64 0) := (blk_cell B2.out 2).trans rfl; have b3 : w3.cell? ⟨g2, 3, none⟩ = some (.int .i64 0) := (blk_cell B2.out 3).trans rfl; have b4 : w3.cell? ⟨g2, 4, none⟩ = some (.int .i64 0) := (blk_cell B2.out 4).trans rfl; have b5 : w3.cell? ⟨g2, 5, none⟩ = some (.int .i64 0) := (blk_cell B2.out 5).trans rfl; have b6 : w3.cell? ⟨g2, 6, none⟩ = some (.int .i64 0) := (blk_cell B2.out 6).trans rfl; have d0 := blk_frozen B2.out 0; have d1 := blk_frozen B2.out 1; have d2 := blk_frozen B2.out 2; have d3 := blk_frozen B2.out 3; have d4 := blk_frozen B2.out 4; have d5 := blk_frozen B2.out 5; have d6 := blk_frozen B2.out 6)
                | (go_at_call 24; refine (bytes_HasPrefix.calls _ c0 l0 (some ⟨gm, 0, none⟩) 4 [84, 90, 105, 102] true _ (Kd.C_below HR0.out HB.out) HC0.out (C_marked BM.out rfl (by decide)) (by decide) HP.out).mono ?_; rintro e w7 ⟨rfl, ⟨nd, rfl⟩⟩; have n2_ := Aside0.mk (show Below w.heap.size w (w3.drewN nd) from below_step HB.out (by repeat (first | exact Below.refl _ _ | apply pw_below_drewN))); clear HB; have HB := n2_; clear n2_)
                | (go_at_call 13; refine (header_Right.calls v x1 x2 x3 x4 x5 x6 false _ HQ.out).mono ?_; rintro e w8 ⟨rfl, hb⟩; have n0_ := Aside0.mk (blk_below (w1 := w8) (show (w3.drewN nd).heap[g2]? = _ from B2.out) hb); have n1_ := Aside0.mk (blk_below (w1 := w8) (show (w3.drewN nd).heap[gh]? = _ from BH.out) hb); have n2_ := Aside0.mk (below_step HB.out hb); clear B2 BH HB; have B2 := n0_; have BH := n1_; have HB := n2_; clear n0_ n1_ n2_; clear hb; have h0 : w8.cell? ⟨gh, 0, none⟩ = some (.int .i64 v) := (blk_cell BH.out 0).trans rfl; have h1 : w8.cell? ⟨gh, 1, none⟩ = some (.int .i64 x1) := (blk_cell BH.out 1).trans rfl; have h2 : w8.cell? ⟨gh, 2, none⟩ = some (.int .i64 x2) := (blk_cell BH.out 2).trans rfl; have h3 : w8.cell? ⟨gh, 3, none⟩ = some (.int .i64 x3) := (blk_cell BH.out 3).trans rfl; have h4 : w8.cell? ⟨gh, 4, none⟩ = some (.int .i64 x4) := (blk_cell BH.out 4).trans rfl; have h5 : w8.cell? ⟨gh, 5, none⟩ = some (.int .i64 x5) := (blk_cell BH.out 5).trans rfl; have h6 : w8.cell? ⟨gh, 6, none⟩ = some (.int .i64 x6) := (blk_cell BH.out 6).trans rfl; have k0 : w8.cell? ⟨g2, 0, none⟩ = some (.int .i64 0) := (blk_cell B2.out 0).trans rfl; have k1 : w8.cell? ⟨g2, 1, none⟩ = some (.int .i64 0) := (blk_cell B2.out 1).trans rfl; have k2 : w8.cell? ⟨g2, 2, none⟩ = some (.int .i64 0) := (blk_cell B2.out 2).trans rfl; have k3 : w8.cell? ⟨g2, 3, none⟩ = some (.int .i64 0) := (blk_cell B2.out 3).trans rfl; have k4 : w8.cell? ⟨g2, 4, none⟩ = some (.int .i64 0) := (blk_cell B2.out 4).trans rfl; have k5 : w8.cell? ⟨g2, 5, none⟩ = some (.int .i64 0) := (blk_cell B2.out 5).trans rfl; have k6 : w8.cell? ⟨g2, 6, none⟩ = some (.int .i64 0) := (blk_cell B2.out 6).trans rfl; have m0 := blk_frozen B2.out 0; have m1 := blk_frozen B2.out 1; have m2 := blk_frozen B2.out 2; have m3 := blk_frozen B2.out 3; have m4 := blk_frozen B2.out 4; have m5 := blk_frozen B2.out 5; have m6 := blk_frozen B2.out 6; have hx6 := (Below.cell HB.out (p := ⟨ad.block, ad.off + 4, none⟩) hadw).trans hx4))
              refine bodyPost_ret (results_ct rfl _ _ g2 23 #[.int .i64 0, .int .i64 0, .int .i64 0, .int .i64 0, .int .i64 0, .int .i64 0, .int .i64 0] (0, 0) _ rfl (put7_at B2.out) Try.underlying23 rfl (by kernel_rfl)) rfl ?_
              exact ⟨rfl, put7_below HB.out GE2.out⟩
          · rw [if_neg cp] at H
            obtain rfl : p = false := by simpa using cp
            simp only [decWrong, Option.some.injEq, Prod.mk.injEq] at H
            obtain ⟨rfl, rfl, rfl, rfl, rfl, rfl, rfl, rfl⟩ := H
            go_wp2_with (first
              | ((with_reducible refine gate_dst (N := 43) rfl ?_); refine R_lit_marked 28 5 ?hg ?hg2 (N := 43) ?ho2 Try.underlying28 Try.underlying5 (n := 4) (inner := [.int .u8 84, .int .u8 90, .int .u8 105, .int .u8 102]) ?hev ?hr ?_; (case hg => rfl); (case hg2 => rfl); (case ho2 => rfl); (case hev => intro v_; first | (go_simp; done) | (go_simp; rfl) | rfl); (case hr => first | (go_simp; done) | (go_simp; rfl)); intro gm w3 hgm hm hb; clear hgm; have BM := Aside0.mk hm; have n0_ := Aside0.mk (blk_below B2.out hb); have n1_ := Aside0.mk (blk_below BH.out hb); have n2_ := Aside0.mk (below_step HB.out hb); clear B2 BH HB; have B2 := n0_; have BH := n1_; have HB := n2_; clear n0_ n1_ n2_; clear hb hm; have a0 : w3.cell? ⟨gh, 0, none⟩ = some (.int .i64 v) := (blk_cell BH.out 0).trans rfl; have a1 : w3.cell? ⟨gh, 1, none⟩ = some (.int .i64 x1) := (blk_cell BH.out 1).trans rfl; have a2 : w3.cell? ⟨gh, 2, none⟩ = some (.int .i64 x2) := (blk_cell BH.out 2).trans rfl; have a3 : w3.cell? ⟨gh, 3, none⟩ = some (.int .i64 x3) := (blk_cell BH.out 3).trans rfl; have a4 : w3.cell? ⟨gh, 4, none⟩ = some (.int .i64 x4) := (blk_cell BH.out 4).trans rfl; have a5 : w3.cell? ⟨gh, 5, none⟩ = some (.int .i64 x5) := (blk_cell BH.out 5).trans rfl; have a6 : w3.cell? ⟨gh, 6, none⟩ = some (.int .i64 x6) := (blk_cell BH.out 6).trans rfl; have b0 : w3.cell? ⟨g2, 0, none⟩ = some (.int .i64 0) := (blk_cell B2.out 0).trans rfl; have b1 : w3.cell? ⟨g2, 1, none⟩ = some (.int .i64 0) := (blk_cell B2.out 1).trans rfl; have b2 : w3.cell? ⟨g2, 2, none⟩ = some (.int .i64 0) := (blk_cell B2.out 2).trans rfl; have b3 : w3.cell? ⟨g2, 3, none⟩ = some (.int .i64 0) := (blk_cell B2.out 3).trans rfl; have b4 : w3.cell? ⟨g2, 4, none⟩ = some (.int .i64 0) := (blk_cell B2.out 4).trans rfl; have b5 : w3.cell? ⟨g2, 5, none⟩ = some (.int .i64 0) := (blk_cell B2.out 5).trans rfl; have b6 : w3.cell? ⟨g2, 6, none⟩ = some (.int .i64 0) := (blk_cell B2.out 6).trans rfl; have d0 := blk_frozen B2.out 0; have d1 := blk_frozen B2.out 1; have d2 := blk_frozen B2.out 2; have d3 := blk_frozen B2.out 3; have d4 := blk_frozen B2.out 4; have d5 := blk_frozen B2.out 5; have d6 := blk_frozen B2.out 6)
              | (go_at_call 24; refine (bytes_HasPrefix.calls _ c0 l0 (some ⟨gm, 0, none⟩) 4 [84, 90, 105, 102] false _ (Kd.C_below HR0.out HB.out) HC0.out (C_marked BM.out rfl (by decide)) (by decide) HP.out).mono ?_; rintro e w7 ⟨rfl, ⟨nd, rfl⟩⟩; have n2_ := Aside0.mk (show Below w.heap.size w (w3.drewN nd) from below_step HB.out (by repeat (first | exact Below.refl _ _ | apply pw_below_drewN))); clear HB; have HB := n2_; clear n2_))
            refine bodyPost_ret (results_ct rfl _ _ g2 23 #[.int .i64 0, .int .i64 0, .int .i64 0, .int .i64 0, .int .i64 0, .int .i64 0, .int .i64 0] (0, 0) _ rfl (put7_at B2.out) Try.underlying23 rfl (by kernel_rfl)) rfl ?_
            exact ⟨rfl, put7_below HB.out GE2.out⟩
end Go.Proofs.Ytgaibighfmcgoaa.Hand
