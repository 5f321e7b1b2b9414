/- The statement EpochRest: it returns true. -/
import Derived.Test.YtfiehglbpcjkfaaEpW
import Derived.Test.YtfiehglbpcjkfaaEpSm
namespace Go.Proofs.Ytfiehglbpcjkfaa.Hand
open Go.Proofs Go Go.MapKept Go.RowKit Go.Proofs.YtfiehglbpcjkfaaW.PrintWords Go.Proofs.YtfiehglbpcjkfaaW.PrintLast Go.Proofs.YtfiehglbpcjkfaaW.PrintMore
set_option linter.unusedVariables false
set_option linter.unusedSectionVars false
set_option linter.unusedSimpArgs false
theorem prow_c {w : World} {base : Nat} {v : Value} {L : List Int} (h : w.ownsRow base 3 1 v L.length (nums .i64 L)) : ∃ A c, v = .slice A L.length c ∧ Kd.C (Kd.int .i64) w A L.length L ∧ L.length ≤ c := by
  obtain ⟨A, c, hv, hr⟩ := own_reads_row h (Kd.reps_scalar (enc := encZ) L) rfl
  refine ⟨A, c, hv, hr, ?_⟩
  rcases h.2 with ⟨h0, h1⟩ | ⟨g', cap', cur, h0, hg, hb, hn, _⟩
  · rw [hv] at h0
    injection h0 with e1 e2 e3
    omega
  · rw [hv] at h0
    cases h0
    exact hn
theorem wants_len (last : Int) (s : St) (j : Nat) : (wants last s j).length ≤ j := by
  unfold wants
  refine Nat.le_trans (List.length_filter_le _ _) ?_
  simp
def pcell (w : World) (G r : Nat) : Nat := match w.cell? ⟨G, r, none⟩ with | some (.int _ v) => v.toNat | _ => 0
theorem pcell_of {w : World} {G r : Nat} {v : Int} (h : w.cell? ⟨G, r, none⟩ = some (.int .i64 v)) : pcell w G r = v.toNat := by unfold pcell; rw [h]
theorem meas2 {q : Nat} (h : q < 20) : 100 - (Go.RowKit.intOf (.int .i64 ((q : Int) + 1 + 1))).toNat < 100 - (Go.RowKit.intOf (.int .i64 ((q : Int) + 1))).toNat := by
  show 100 - ((q : Int) + 1 + 1).toNat < 100 - ((q : Int) + 1).toNat
  omega
theorem ap_at {pl : List Int} {s : St} (h : PL pl s) (q : Nat) (hq : q < 20) : pl.getD (q + 1) 0 = nget s.pins ((q : Int) + 1) := by
  have := h.at_ (q + 1) (by omega) (by omega)
  rwa [Int.natCast_succ] at this
theorem ap_set {pl : List Int} {s t : St} (h : PL pl s) {q : Nat} {v : Int} (hq : q < 20) (e : ∀ x : Int, nget t.pins x = if x = (q : Int) + 1 then v else nget s.pins x) : PL (pl.set (q + 1) v) t :=
  h.set (by omega) (by omega) (fun x => by rw [e x, Int.natCast_succ])
theorem set_get {pl : List Int} {q : Nat} {v : Int} (h : pl.length = 21) (hq : q < 20) : (pl.set (q + 1) v).getD (q + 1) 0 = v := by
  rw [List.getD_eq_getElem?_getD, List.getElem?_set, if_pos rfl, if_pos (by omega)]
  rfl
theorem wants_pos {last : Int} {s : St} {q : Nat} (h : 0 < nget s.pins ((q : Int) + 1) ∨ (q : Int) + 1 = last) : wants last s (q + 1) = wants last s q ++ [(q : Int) + 1] := by
  rw [wants_succ, if_pos (by rw [Int.natCast_succ]; simpa using h), Int.natCast_succ]
theorem wants_neg {last : Int} {s : St} {q : Nat} (h : ¬ (0 < nget s.pins ((q : Int) + 1) ∨ (q : Int) + 1 = last)) : wants last s (q + 1) = wants last s q := by
  rw [wants_succ, if_neg (by rw [Int.natCast_succ]; simpa using h), List.append_nil]
theorem num_succ {q : Nat} : (Value.int .i64 ((q : Int) + 1 + 1)) = Value.int .i64 (((q + 1 : Nat) : Int) + 1) := by rw [Int.natCast_succ]
set_option maxHeartbeats 4000000 in
set_option maxRecDepth 100000 in
theorem rest_walk (A : Option Addr) (c : Nat) (l : List Int) (A1 : Option Addr) (c1 : Nat) (l1 : List Bool) (A2 : Option Addr) (c2 : Nat) (l2 : List Bool) (w : World) (hr : Kd.C (Kd.int .i64) w A l.length l) (hc : l.length ≤ c) (_ : ∀ q ∈ l, wfi q) (hr1 : Kd.C Kd.bool w A1 l1.length l1) (hc1 : l1.length ≤ c1) (hr2 : Kd.C Kd.bool w A2 l2.length l2) (hc2 : l2.length ≤ c2) :
    Calls Try.prog 5 #[.slice A l.length c, .slice A1 l1.length c1, .slice A2 l2.length c2] w fun e w' => e = .returned (.bool true) ∧ Below w.heap.size w w' := by
  have HR := Aside0.mk hr
  have HR1 := Aside0.mk hr1
  have HR2 := Aside0.mk hr2
  have hms := print_make (P := Try.prog) 28 3 .i64 8 Try.underlying28 info3 (by decide) 21 (by decide)
  have hms : ∀ W : World, (Instr.makeSlice 28 (.int .i64 21) (.int .i64 21)).run Try.prog W = .ok (.slice (some ⟨W.heap.size, 0, none⟩) 21 21) (W.alloc (.cells (madeCells #[.int .i64 0] 21) 3)) := hms
  clear hr hr1 hr2
  go_enter Try.func5, Try.ntmps5
  go_wp2_with (first
    | (go_at_call 9; refine (shown_c _).mono ?_; rintro e w1 ⟨rfl, hb1⟩; have HB := Aside0.mk hb1; clear hb1)
    | (go_at_call 10; refine (new_c _).mono ?_; rintro e w2 ⟨rfl, h1, h2_, h3⟩; obtain ⟨H, eH⟩ : ∃ H, H = w1.heap.size := ⟨_, rfl⟩; have HH := Aside0.mk (show w.heap.size ≤ H by rw [eH]; exact HB.out.size); have HBr := Aside0.mk (below_step HB.out h2_); have hsz : Aside0 (w2.heap.size = H + 5) := ⟨by rw [h3, eH]⟩; rw [← eH] at h1 ⊢; have HE := Aside0.mk h1; clear h1 h2_ h3 eH HB))
  clear hms
  have HPR := Aside0.mk (own_made w2 (H + 5) 3 .i64 21 (by rw [hsz.out]; exact Nat.le_refl _) (by omega))
  have HE0 := Aside0.mk (HE.out.grown (World.grownBy_alloc w2 (.cells (madeCells #[.int .i64 0] 21) 3) (some (H + 5))) (Nat.le_refl _))
  have HB0 := Aside0.mk (below_alloc HBr.out (.cells (madeCells #[.int .i64 0] 21) 3))
  obtain ⟨G, eG⟩ : ∃ G, G = w2.heap.size := ⟨_, rfl⟩
  have HG := Aside0.mk (show H + 5 ≤ G by rw [eG, hsz.out]; exact Nat.le_refl _)
  rw [← eG] at HPR ⊢
  clear HE HBr hsz
  generalize w2.alloc (.cells (madeCells #[.int .i64 0] 21) 3) = w3 at HPR HE0 HB0 ⊢
  clear eG
  go_loopw [10, 11] (fun la i wr => ∃ (k last b : Nat) (s : St) (pl : List Int), la = .int .i64 (last : Int) ∧ i = .int .i64 (k : Int) ∧ Aside0 (b ≤ 4 * k ∧ k ≤ 60 ∧ Rest (last : Int) b s ∧ PL pl s ∧ Ep wr H s ∧ PRow wr (H + 5) G pl) ∧ Aside0 (Below w.heap.size w wr)) (fun _ i _ => 100 - (Go.RowKit.intOf i).toNat)
  case atStart => exact ⟨0, 0, 0, St.new, _, rfl, rfl, ⟨by omega, by omega, Rest.new, PL.new, HE0.out, HPR.out⟩, HB0⟩
  case round =>
    clear HE0 HB0 HPR
    obtain ⟨k, last, b, s, pl, rfl, rfl, HK, HBr⟩ := hrel
    obtain ⟨q1, q2, q3, q4, q5, q6⟩ := HK.out
    have BB := Aside0.mk (show b ≤ 240 ∧ b ≤ 4 * k by omega)
    have HQ := Aside0.mk q3
    have HPL := Aside0.mk q4
    have HE := Aside0.mk q5
    have HPR := Aside0.mk q6
    clear HK q3 q4 q5 q6
    by_cases hlt : k < l.length ∧ k < 60
    · obtain ⟨g1, g2⟩ := hlt
      obtain ⟨ad, rfl, hcell0⟩ := Ci_at HR.out k g1
      have hcell : wr.cell? (ad.add k) = some (.int .i64 (l.getD k 0)) := (HBr.out.cell (p := ad.add k) (lt_of_cell hcell0)).trans hcell0
      clear hcell0
      generalize l.getD k 0 = x at hcell
      obtain ⟨r, hr0, r1, r2⟩ := pickn x 1 20 (by omega) (by omega) (by omega) (by omega)
      have HR0 := Aside0.mk hr0
      clear hr0
      have R1 := Aside0.mk (show 1 ≤ (r : Int) by omega)
      have R2 := Aside0.mk (show (r : Int) ≤ 20 by omega)
      have hpe : pubErr (r : Int) = 0 := by unfold pubErr; rw [if_neg (by omega)]
      have k1 : (k : Int) < (l.length : Int) := by omega
      have k2 : (k : Int) < 60 := by omega
      have HW := Aside0.mk (show wrap64 ((k : Int) + 1) = (k : Int) + 1 from wrap_add1 (by omega) (by omega))
      have G2 := Aside0.mk g2
      have HQ1 := Aside0.mk (rest_pub HQ.out R1.out R2.out)
      have HEP : Aside0 (s.ep ≤ 4611686018427387904) := ⟨by have h1 := HQ.out.ok.ep9; have h2 := BB.out.1; omega⟩
      have HPB : Aside0 (nget (s.publish (r : Int)).pins (s.publish (r : Int)).cur ≤ 4611686018427387904) := ⟨by have h1 := HQ1.out.ok.pin9 (s.publish (r : Int)).cur; have h2 := BB.out.1; omega⟩
      have BK1 := Aside0.mk (show k + 1 ≤ 60 by omega)
      have BK3 := Aside0.mk (show b + 3 ≤ 4 * (k + 1) by omega)
      have BK4 := Aside0.mk (show b + 4 ≤ 4 * (k + 1) by omega)
      have RL := Aside0.mk (show r < 21 by omega)
      have HWG := Aside0.mk (show w.heap.size ≤ G by have h1 := HH.out; have h2 := HG.out; omega)
      have HPL1 := Aside0.mk (HPL.out.same (t := s.publish (r : Int)) pub_pins)
      clear r1 r2 g1 g2 q1 q2
      by_cases hp : k < l1.length
      · obtain ⟨ad1, rfl, hb1⟩ := Cb_at HR1.out k hp
        have hblk1 := Aside0.mk (lt_of_cell hb1)
        have k3 : (k : Int) < (l1.length : Int) := by omega
        generalize hbb : l1.getD k false = bb at hb1
        clear hbb hp
        cases bb with
        | false =>
          have hr0 := HR0.out
          have hw := HW.out
          go_wp2_with (first
            | (go_at_call 11; (try rw [hr0]); refine (publish_v HE.out (r : Int) HQ.out.ok.ep0 HEP.out rfl hpe).mono ?_; rintro e w3 ⟨rfl, h1, h2⟩; have HE2 := Aside0.mk h1; have HP2 := Aside0.mk (prow_fr HPR.out h2); have HB2 := Aside0.mk (below_fr HBr.out h2 HH.out); have hcl : w3.cell? (ad1.add k) = some (.bool false) := (HB2.out.cell (p := ad1.add k) hblk1.out).trans hb1; clear h1 h2 hr0 hcell))
          go_roundw
          case rel => exact ⟨k + 1, r, b + 3, _, _, rfl, by go_num, ⟨BK3.out, BK1.out, HQ1.out, HPL1.out, HE2.out, HP2.out⟩, HB2⟩
          case measure => first | exact meas G2.out (by decide) | (rw [HW.out]; exact meas G2.out (by decide))
        | true =>
          obtain ⟨d1, d2, d3⟩ := rest_pin HQ1.out R1.out
          have HD1 := Aside0.mk d1
          have HD2 := Aside0.mk d2
          obtain ⟨pv, epv⟩ : ∃ pv, pv = nget (s.publish (r : Int)).pins (r : Int) := ⟨_, rfl⟩
          rw [← epv] at d3
          have HPL2 := Aside0.mk (HPL1.out.set (r := r) (v := pv + 1) (by have := R1.out; omega) (by have := R2.out; omega) d3)
          have hpv : Aside0 (pl.getD r 0 = pv) := ⟨by rw [HPL1.out.at_ r (by have := R1.out; omega) (by have := R2.out; omega), epv]⟩
          have hrl : (r : Int) < 21 := by have := R2.out; omega
          have hwp : wrap64 (pv + 1) = pv + 1 := by
            have h1 := HQ1.out.ok.pin0 (r : Int)
            have h2 := HQ1.out.ok.pin9 (r : Int)
            rw [← epv] at h1 h2
            exact wrap_add1 (by omega) (by have := BB.out; omega)
          clear d1 d2 d3 epv
          have hr0 := HR0.out
          have hw := HW.out
          go_upto_region 17 with (first
            | (go_at_call 11; (try rw [hr0]); refine (publish_v HE.out (r : Int) HQ.out.ok.ep0 HEP.out rfl hpe).mono ?_; rintro e w3 ⟨rfl, h1, h2⟩; have HE2 := Aside0.mk h1; have HP2 := Aside0.mk (prow_fr HPR.out h2); have HB2 := Aside0.mk (below_fr HBr.out h2 HH.out); have hcl : w3.cell? (ad1.add k) = some (.bool true) := (HB2.out.cell (p := ad1.add k) hblk1.out).trans hb1; clear h1 h2 hr0 hcell)
            | (go_at_call 17; refine (pin_v HE2.out (HQ1.out.ok.pin0 _) HPB.out HQ1.out.cur HD2.out rfl).mono ?_; rintro e w4 ⟨rfl, h1, h2⟩; have HE3 := Aside0.mk h1; have HP3 := Aside0.mk (prow_fr HP2.out h2); have HB3 := Aside0.mk (below_fr HB2.out h2 HH.out); have hr1 := (prow_at HP3.out r RL.out).1; have hr2 := (prow_at HP3.out r RL.out).2; rw [hpv.out] at hr1; clear h1 h2))
          clear hpe hw k1 k2 k3 hcl
          go_wp2
          have hset := prow_set HP3.out r (pv + 1)
          have HP4 := Aside0.mk hset.1
          have HE4 := Aside0.mk (HE3.out.grown hset.2 HG.out)
          have HB4 := Aside0.mk (HB3.out.setCell (p := ⟨G, r, none⟩) HWG.out (.int .i64 (pv + 1)))
          clear hset
          go_roundw
          case rel => exact ⟨k + 1, r, b + 4, _, _, rfl, (by first | go_num | (rw [HW.out]; go_num) | (rw [HW.out]; rfl)), ⟨BK4.out, BK1.out, HD1.out, HPL2.out, HE4.out, HP4.out⟩, HB4⟩
          case measure => first | exact meas G2.out (by decide) | (rw [HW.out]; exact meas G2.out (by decide))
      · have k3 : ¬ (k : Int) < (l1.length : Int) := by omega
        clear hp
        have hr0 := HR0.out
        have hw := HW.out
        go_wp2_with (first
          | (go_at_call 11; (try rw [hr0]); refine (publish_v HE.out (r : Int) HQ.out.ok.ep0 HEP.out rfl hpe).mono ?_; rintro e w3 ⟨rfl, h1, h2⟩; have HE2 := Aside0.mk h1; have HP2 := Aside0.mk (prow_fr HPR.out h2); have HB2 := Aside0.mk (below_fr HBr.out h2 HH.out); clear h1 h2 hr0 hcell))
        go_roundw
        case rel => exact ⟨k + 1, r, b + 3, _, _, rfl, by go_num, ⟨BK3.out, BK1.out, HQ1.out, HPL1.out, HE2.out, HP2.out⟩, HB2⟩
        case measure => first | exact meas G2.out (by decide) | (rw [HW.out]; exact meas G2.out (by decide))
    · have hcase : (k : Int) < (l.length : Int) ∧ ¬ (k : Int) < 60 ∨ ¬ (k : Int) < (l.length : Int) := by omega
      clear hlt q1 q2
      rcases hcase with ⟨e1, e2⟩ | e1
      · go_wp2
        clear e1 e2
        obtain ⟨HBq, HEq, HPq, HQq, HLq⟩ := (⟨HBr, HE, HPR, HQ, HPL⟩ : _ ∧ _ ∧ _ ∧ _ ∧ _)
        clear HBr HE HPR HQ HPL
        go_loopw [14] (fun rr wr => ∃ (q b : Nat) (s : St) (pl : List Int), rr = .int .i64 ((q : Int) + 1) ∧ Aside0 (q ≤ 20 ∧ b ≤ 240 + 480 * q ∧ (∀ x, nget s.pins x ≤ 240) ∧ Rest (last : Int) b s ∧ PL pl s ∧ Ep wr H s ∧ PRow wr (H + 5) G pl) ∧ Aside0 (Below w.heap.size w wr)) (fun rr _ => 100 - (Go.RowKit.intOf rr).toNat)
        case atStart => exact ⟨0, b, s, pl, by go_num, ⟨by omega, by have := BB.out; omega, fun x => by have h1 := HQq.out.ok.pin9 x; have h2 := BB.out; omega, HQq.out, HLq.out, HEq.out, HPq.out⟩, HBq⟩
        case round =>
          clear HBq HEq HPq HQq HLq BB
          obtain ⟨q, b, s, pl, rfl, HK, HBr⟩ := hrel
          obtain ⟨p1, p2, p3, p4, p5, p6, p7⟩ := HK.out
          have HQ := Aside0.mk p4
          have HPL := Aside0.mk p5
          have HE := Aside0.mk p6
          have HPR := Aside0.mk p7
          have P3 := Aside0.mk p3
          have P2 := Aside0.mk p2
          clear HK p3 p4 p5 p6 p7
          by_cases hq : q < 20
          · have Q20 := Aside0.mk hq
            have k1 : (q : Int) + 1 ≤ 20 := by omega
            have HW := Aside0.mk (show wrap64 ((q : Int) + 1 + 1) = (q : Int) + 1 + 1 from wrap_add1 (by omega) (by omega))
            clear hq p1 p2
            go_wp2
            clear k1
            go_loopw [97] (fun _ wr => ∃ (b : Nat) (s : St) (pl : List Int), Aside0 (b + 2 * (nget s.pins ((q + 1 : Nat) : Int)).toNat ≤ 240 + 480 * (q + 1) ∧ (∀ x, nget s.pins x ≤ 240) ∧ Rest (last : Int) b s ∧ PL pl s ∧ Ep wr H s ∧ PRow wr (H + 5) G pl) ∧ Aside0 (Below w.heap.size w wr)) (fun _ wr => pcell wr G (q + 1))
            case atStart => exact ⟨b, s, pl, ⟨by have h1 := P3.out ((q + 1 : Nat) : Int); have h2 := P2.out; omega, P3.out, HQ.out, HPL.out, HE.out, HPR.out⟩, HBr⟩
            case round =>
              clear HBr HE HPR HQ HPL P3 P2
              obtain ⟨b, s, pl, HK, HBr⟩ := hrel
              obtain ⟨p2, p3, p4, p5, p6, p7⟩ := HK.out
              have HQ := Aside0.mk p4
              have HPL := Aside0.mk p5
              have HE := Aside0.mk p6
              have HPR := Aside0.mk p7
              have P3 := Aside0.mk p3
              have P2 := Aside0.mk p2
              obtain ⟨hg1, hg2⟩ := prow_at p7 (q + 1) (by have := Q20.out; omega)
              clear HK p2 p3 p4 p5 p6 p7
              by_cases hl2 : q + 1 ≤ l2.length
              · obtain ⟨ad2, rfl, hb2⟩ := Cb_at HR2.out q (by omega)
                have hcl2 := (HBr.out.cell (p := ad2.add q) (lt_of_cell hb2)).trans hb2
                generalize hbb : l2.getD q false = bb at hcl2
                have k3 : (q : Int) + 1 ≤ (l2.length : Int) := by omega
                have k4 : (q : Int) < (l2.length : Int) := by omega
                have hw1 : wrap64 ((q : Int) + 1 - 1) = (q : Int) := by rw [Int.add_sub_cancel]; unfold wrap64; have := Q20.out; omega
                have hw2 : wrap64 (q : Int) = (q : Int) := by unfold wrap64; have := Q20.out; omega
                have k5 : (q : Int) + 1 < 21 := by have := Q20.out; omega
                clear hb2 hbb hl2
                have hvz := ap_at HPL.out q Q20.out
                have hv0 := HQ.out.ok.pin0 ((q : Int) + 1)
                have hv9 := P3.out ((q : Int) + 1)
                obtain ⟨v, ev⟩ : ∃ v, v = nget s.pins ((q : Int) + 1) := ⟨_, rfl⟩
                rw [← ev] at hvz hv0 hv9
                rw [hvz] at hg1
                have HVZ := Aside0.mk hvz
                have EV := Aside0.mk ev
                clear hvz ev
                by_cases hvp : 0 < v
                · cases bb with
                  | true =>
                    obtain ⟨d1, d2, d3⟩ := rest_unpin (r := (q : Int) + 1) HQ.out (by rw [← EV.out]; exact hvp)
                    have HD1 := Aside0.mk d1
                    have HD2 := Aside0.mk d2
                    rw [← EV.out] at d3
                    have HD3 := Aside0.mk d3
                    have HPL2 := Aside0.mk (ap_set HPL.out Q20.out d3)
                    have hws : wrap64 (v - 1) = v - 1 := wrap_sub1 (by omega) (by omega)
                    have HVB := Aside0.mk (show 0 < v ∧ v ≤ 240 from ⟨hvp, hv9⟩)
                    have HEP : Aside0 (s.ep ≤ 4611686018427387904) := ⟨by have h1 := HQ.out.ok.ep9; have h2 := P2.out; have h3 := Q20.out; omega⟩
                    have HPB : Aside0 (nget s.pins ((q : Int) + 1) ≤ 4611686018427387904) := ⟨by rw [← EV.out]; omega⟩
                    have QL := Aside0.mk (show q + 1 < 21 by have := Q20.out; omega)
                    have HPc := Aside0.mk hg1
                    clear d1 d2 d3 hv0 hv9
                    go_wp2_with (first
                      | (go_at_call 19; refine (unpin_v HE.out ((q : Int) + 1) HQ.out.ok.ep0 HEP.out (HQ.out.ok.pin0 _) HPB.out HD2.out rfl).mono ?_; rintro e w4 ⟨rfl, h1, h2⟩; have HE3 := Aside0.mk h1; have HP3 := Aside0.mk (prow_fr HPR.out h2); have HB3 := Aside0.mk (below_fr HBr.out h2 HH.out); have hr1 := (prow_at HP3.out (q + 1) QL.out).1; have hr2 := (prow_at HP3.out (q + 1) QL.out).2; rw [HVZ.out] at hr1; clear h1 h2 hg1 hg2 hcl2 hw1 hw2 k3 k4))
                    have hset := prow_set HP3.out (q + 1) (v - 1)
                    have HP4 := Aside0.mk hset.1
                    have HE4 := Aside0.mk (HE3.out.grown hset.2 HG.out)
                    have HB4 := Aside0.mk (HB3.out.setCell (p := ⟨G, q + 1, none⟩) (by have h1 := HH.out; have h2 := HG.out; show w.heap.size ≤ G; omega) (.int .i64 (v - 1)))
                    clear hset hws
                    go_roundw
                    case rel => exact ⟨b + 2, _, _, ⟨by have h1 := HD3.out ((q : Int) + 1); rw [if_pos rfl] at h1; rw [Int.natCast_succ, h1]; have h2 := P2.out; rw [Int.natCast_succ, ← EV.out] at h2; have h3 := HVB.out; omega, fun x => by rw [HD3.out x]; have h1 := P3.out x; have h3 := HVB.out; split <;> omega, HD1.out, HPL2.out, HE4.out, HP4.out⟩, HB4⟩
                    case measure => rw [pcell_of (prow_at HP4.out (q + 1) QL.out).1, pcell_of HPc.out, set_get HPL.out.len Q20.out]; have h3 := HVB.out; omega
                  | false =>
                    have hvn : (v == 0) = false := beq_eq_false_iff_ne.2 (by omega)
                    have hvn2 : ¬ v = 0 := by omega
                    go_wp2
                    go_roundw
                    case rel => exact ⟨q + 1, b, s, pl, (by first | exact num_succ | (rw [HW.out]; exact num_succ)), ⟨by have := Q20.out; omega, by have := P2.out; omega, P3.out, HQ.out, HPL.out, HE.out, HPR.out⟩, HBr⟩
                    case measure => first | exact meas2 Q20.out | (rw [HW.out]; exact meas2 Q20.out)
                · have hv00 : v = 0 := by omega
                  subst hv00
                  clear hvp hv0 hv9
                  cases bb with
                  | true =>
                    have HU := Aside0.mk (unpin_none (s := s) (r := (q : Int) + 1) EV.out.symm)
                    have HEP : Aside0 (s.ep ≤ 4611686018427387904) := ⟨by have h1 := HQ.out.ok.ep9; have h2 := P2.out; have h3 := Q20.out; omega⟩
                    have HPB : Aside0 (nget s.pins ((q : Int) + 1) ≤ 4611686018427387904) := ⟨by rw [← EV.out]; omega⟩
                    go_wp2_with (first
                      | (go_at_call 19; refine (unpin_v HE.out ((q : Int) + 1) HQ.out.ok.ep0 HEP.out (HQ.out.ok.pin0 _) HPB.out HU.out.2 HU.out.1).mono ?_; rintro e w4 ⟨rfl, h1, h2⟩; have HE3 := Aside0.mk h1; have HP3 := Aside0.mk (prow_fr HPR.out h2); have HB3 := Aside0.mk (below_fr HBr.out h2 HH.out); clear h1 h2))
                    go_roundw
                    case rel => exact ⟨q + 1, b, s, pl, (by first | exact num_succ | (rw [HW.out]; exact num_succ)), ⟨by have := Q20.out; omega, by have := P2.out; omega, P3.out, HQ.out, HPL.out, HE3.out, HP3.out⟩, HB3⟩
                    case measure => first | exact meas2 Q20.out | (rw [HW.out]; exact meas2 Q20.out)
                  | false =>
                    have HU := Aside0.mk (unpin_none (s := s) (r := (q : Int) + 1) EV.out.symm)
                    have HEP : Aside0 (s.ep ≤ 4611686018427387904) := ⟨by have h1 := HQ.out.ok.ep9; have h2 := P2.out; have h3 := Q20.out; omega⟩
                    have HPB : Aside0 (nget s.pins ((q : Int) + 1) ≤ 4611686018427387904) := ⟨by rw [← EV.out]; omega⟩
                    go_wp2_with (first
                      | (go_at_call 19; refine (unpin_v HE.out ((q : Int) + 1) HQ.out.ok.ep0 HEP.out (HQ.out.ok.pin0 _) HPB.out HU.out.2 HU.out.1).mono ?_; rintro e w4 ⟨rfl, h1, h2⟩; have HE3 := Aside0.mk h1; have HP3 := Aside0.mk (prow_fr HPR.out h2); have HB3 := Aside0.mk (below_fr HBr.out h2 HH.out); clear h1 h2))
                    go_roundw
                    case rel => exact ⟨q + 1, b, s, pl, (by first | exact num_succ | (rw [HW.out]; exact num_succ)), ⟨by have := Q20.out; omega, by have := P2.out; omega, P3.out, HQ.out, HPL.out, HE3.out, HP3.out⟩, HB3⟩
                    case measure => first | exact meas2 Q20.out | (rw [HW.out]; exact meas2 Q20.out)
              · have k3 : ¬ (q : Int) + 1 ≤ (l2.length : Int) := by omega
                have k5 : (q : Int) + 1 < 21 := by have := Q20.out; omega
                clear hl2
                have hvz := ap_at HPL.out q Q20.out
                have hv0 := HQ.out.ok.pin0 ((q : Int) + 1)
                obtain ⟨v, ev⟩ : ∃ v, v = nget s.pins ((q : Int) + 1) := ⟨_, rfl⟩
                rw [← ev] at hvz hv0
                rw [hvz] at hg1
                have HVZ := Aside0.mk hvz
                have EV := Aside0.mk ev
                clear hvz ev
                by_cases hvp : 0 < v
                · have hvn : (v == 0) = false := beq_eq_false_iff_ne.2 (by omega)
                  have hvn2 : ¬ v = 0 := by omega
                  go_wp2
                  go_roundw
                  case rel => exact ⟨q + 1, b, s, pl, (by first | exact num_succ | (rw [HW.out]; exact num_succ)), ⟨by have := Q20.out; omega, by have := P2.out; omega, P3.out, HQ.out, HPL.out, HE.out, HPR.out⟩, HBr⟩
                  case measure => first | exact meas2 Q20.out | (rw [HW.out]; exact meas2 Q20.out)
                · have hv00 : v = 0 := by omega
                  subst hv00
                  clear hvp hv0
                  have HU := Aside0.mk (unpin_none (s := s) (r := (q : Int) + 1) EV.out.symm)
                  have HEP : Aside0 (s.ep ≤ 4611686018427387904) := ⟨by have h1 := HQ.out.ok.ep9; have h2 := P2.out; have h3 := Q20.out; omega⟩
                  have HPB : Aside0 (nget s.pins ((q : Int) + 1) ≤ 4611686018427387904) := ⟨by rw [← EV.out]; omega⟩
                  go_wp2_with (first
                    | (go_at_call 19; refine (unpin_v HE.out ((q : Int) + 1) HQ.out.ok.ep0 HEP.out (HQ.out.ok.pin0 _) HPB.out HU.out.2 HU.out.1).mono ?_; rintro e w4 ⟨rfl, h1, h2⟩; have HE3 := Aside0.mk h1; have HP3 := Aside0.mk (prow_fr HPR.out h2); have HB3 := Aside0.mk (below_fr HBr.out h2 HH.out); clear h1 h2))
                  go_roundw
                  case rel => exact ⟨q + 1, b, s, pl, (by first | exact num_succ | (rw [HW.out]; exact num_succ)), ⟨by have := Q20.out; omega, by have := P2.out; omega, P3.out, HQ.out, HPL.out, HE3.out, HP3.out⟩, HB3⟩
                  case measure => first | exact meas2 Q20.out | (rw [HW.out]; exact meas2 Q20.out)
          · have k1 : ¬ (q : Int) + 1 ≤ 20 := by omega
            have HB99 := Aside0.mk (show b ≤ 20000 by have h1 := P2.out; omega)
            clear hq p1 p2
            obtain ⟨d1, d2⟩ := rest_reclaim HQ.out
            have HQ1 := Aside0.mk d1
            have HRT := Aside0.mk d2
            have HPL1 := Aside0.mk (HPL.out.same (t := s.reclaim) rfl)
            obtain ⟨d1, d2⟩ := rest_again HQ1.out HRT.out
            have HA1 := Aside0.mk d1
            have HA2 := Aside0.mk d2
            clear d1 d2
            go_wp2_with (first
              | (go_at_call 21; refine (reclaim_v HE.out (by have h1 := HQ.out.ok.ret; have h2 := HB99.out; omega) rfl rfl rfl).mono ?_; rintro e w5 ⟨A4, c4, rfl, h3, h4, h1, h2⟩; have HE5 := Aside0.mk h1; have HP5 := Aside0.mk (prow_fr HPR.out h2); have HB5 := Aside0.mk (below_fr HBr.out h2 HH.out); clear h1 h2 h3 h4))
            clear HE HPR HBr k1
            generalize s.reclaim = t at HQ1 HRT HPL1 HA1 HA2 HE5
            have G5 := Aside0.mk (prow_ge HP5.out)
            have W5 := Aside0.mk (show w.heap.size ≤ w5.heap.size from HB5.out.size)
            go_loopw [15, 16] (fun v rr wr => ∃ (q : Nat), rr = .int .i64 ((q : Int) + 1) ∧ Aside0 (q ≤ 20 ∧ wr.ownsRow w5.heap.size 3 1 v (wants (last : Int) t q).length (nums .i64 (wants (last : Int) t q)) ∧ Below w5.heap.size w5 wr)) (fun _ rr _ => 100 - (Go.RowKit.intOf rr).toNat)
            case atStart => exact ⟨0, by go_num, ⟨by omega, own_nil _ _ _ _, Below.refl _ _⟩⟩
            case round =>
              obtain ⟨q, rfl, HK⟩ := hrel
              obtain ⟨p1, p2, p3⟩ := HK.out
              have HO := Aside0.mk p2
              have HBw := Aside0.mk p3
              have HPw := Aside0.mk (pw_own_below HP5.out p3)
              clear HK p2 p3
              by_cases hq : q < 20
              · have Q20 := Aside0.mk hq
                have k1 : (q : Int) + 1 ≤ 20 := by omega
                have k5 : (q : Int) + 1 < 21 := by omega
                have HW := Aside0.mk (show wrap64 ((q : Int) + 1 + 1) = (q : Int) + 1 + 1 from wrap_add1 (by omega) (by omega))
                obtain ⟨hg1, hg2⟩ := prow_at HPw.out (q + 1) (by omega)
                rw [ap_at HPL1.out q hq] at hg1
                clear hq p1
                obtain ⟨v, ev⟩ : ∃ v, v = nget t.pins ((q : Int) + 1) := ⟨_, rfl⟩
                rw [← ev] at hg1
                have EV := Aside0.mk ev
                clear ev
                by_cases hvp : 0 < v
                · have HN := Aside0.mk (wants_pos (last := (last : Int)) (s := t) (q := q) (.inl (by rw [← EV.out]; exact hvp)))
                  go_wp2_with (first
                    | (at_builtin; refine print_append_num (w0 := wr) (W := wr) w5.heap.size rfl _ _ 28 3 .i64 8 rfl Try.underlying28 info3 (by decide) u15 (wants (last : Int) t q) ((q : Int) + 1) rfl rfl HO.out (Below.refl _ _) HBw.out.size (by have h1 := wants_len (last : Int) t q; have h2 := Q20.out; omega) ?_; intro v1 w6 hown hB hg hat; clear hg hat; have HO6 := Aside0.mk hown; have HB6 := Aside0.mk (HBw.out.trans hB); clear hown hB))
                  go_roundw
                  case rel => exact ⟨q + 1, (by first | exact num_succ | (rw [HW.out]; exact num_succ)), ⟨by have h2 := Q20.out; omega, by rw [HN.out]; exact HO6.out, HB6.out⟩⟩
                  case measure => first | exact meas2 Q20.out | (rw [HW.out]; exact meas2 Q20.out)
                · by_cases hql : (q : Int) + 1 = (last : Int)
                  · have hqb : ((q : Int) + 1 == (last : Int)) = true := beq_iff_eq.2 hql
                    have HQLa := Aside0.mk hql
                    clear hql
                    have HN := Aside0.mk (wants_pos (last := (last : Int)) (s := t) (q := q) (.inr HQLa.out))
                    go_wp2_with (first
                      | (at_builtin; refine print_append_num (w0 := wr) (W := wr) w5.heap.size rfl _ _ 28 3 .i64 8 rfl Try.underlying28 info3 (by decide) u15 (wants (last : Int) t q) ((q : Int) + 1) rfl rfl HO.out (Below.refl _ _) HBw.out.size (by have h1 := wants_len (last : Int) t q; have h2 := Q20.out; omega) ?_; intro v1 w6 hown hB hg hat; clear hg hat; have HO6 := Aside0.mk hown; have HB6 := Aside0.mk (HBw.out.trans hB); clear hown hB))
                    go_roundw
                    case rel => exact ⟨q + 1, (by first | exact num_succ | (rw [HW.out]; exact num_succ)), ⟨by have h2 := Q20.out; omega, by rw [HN.out]; exact HO6.out, HB6.out⟩⟩
                    case measure => first | exact meas2 Q20.out | (rw [HW.out]; exact meas2 Q20.out)
                  · have hqb : ((q : Int) + 1 == (last : Int)) = false := beq_eq_false_iff_ne.2 hql
                    have HN := Aside0.mk (wants_neg (last := (last : Int)) (s := t) (q := q) (by rw [← EV.out]; omega))
                    clear hql
                    go_wp2
                    go_roundw
                    case rel => exact ⟨q + 1, (by first | exact num_succ | (rw [HW.out]; exact num_succ)), ⟨by have h2 := Q20.out; omega, by rw [HN.out]; exact HO.out, HBw.out⟩⟩
                    case measure => first | exact meas2 Q20.out | (rw [HW.out]; exact meas2 Q20.out)
              · have hq20 : q = 20 := by omega
                subst hq20
                have k1 : ¬ ((20 : Nat) : Int) + 1 ≤ 20 := by omega
                obtain ⟨A8, c8, rfl, hC8, k8⟩ := prow_c HO.out
                have HEw := Aside0.mk (HE5.out.keep (w' := wr) (fun j h1 h2 => HBw.out.block j (by have := HE5.out.lt; omega)))
                have HLV := Aside0.mk (rest_lives HQ1.out HRT.out HEw.out.ever.nodup)
                have HBB := Aside0.mk (show Below w.heap.size w wr from below_then HB5.out HB5.out.size HBw.out)
                have WL := Aside0.mk (wants_len (last : Int) t 20)
                have K8 := Aside0.mk k8
                obtain ⟨L, eL⟩ : ∃ L, L = wants (last : Int) t 20 := ⟨_, rfl⟩
                rw [← eL] at HO HLV hC8 WL K8 ⊢
                clear hq p1 eL hC8 k8
                go_wp2_with (first
                  | (go_at_call 21; refine (reclaim_v HEw.out (by have h1 := HQ1.out.ok.ret; have h2 := HB99.out; omega) HA1.out rfl HA2.out).mono ?_; rintro e w7 ⟨A7, c7, rfl, h3, h4, h1, h2⟩; have HE7 := Aside0.mk h1; have HB7 := Aside0.mk (below_fr HBB.out h2 HH.out); have HO7 := Aside0.mk (own_fr HO.out (fun j h5 h6 => h2.block j h6 (.inr (by have := HE5.out.lt; omega)))); clear h1 h2 h3 h4)
                  | (go_at_call 25; refine (lives_v HE7.out HQ1.out.ok.keys (by have h1 := HQ1.out.ok.ever; have h2 := HB99.out; omega) HLV.out).mono ?_; rintro e w8 ⟨A9, c9, rfl, h3, h4, h2⟩; have HE8 := Aside0.mk (HE7.out.below h2); have HB8 := Aside0.mk (below_step HB7.out h2); have HC9 := Aside0.mk h4; have K9 := Aside0.mk h3; have HC8 : Aside0 (Kd.C (Kd.int .i64) w8 A8 L.length L) := ⟨by obtain ⟨A', c', hv', hC', _⟩ := prow_c (pw_own_below HO7.out h2); cases hv'; exact hC'⟩; clear h2 h3 h4)
                  | (go_at_call 23; refine (same_c A9 c9 A8 c8 L w8 (by have h1 := WL.out; omega) HC9.out K9.out HC8.out K8.out).mono ?_; rintro e w9 ⟨rfl, h2⟩; have HE9 := Aside0.mk (HE8.out.below h2); have HB9 := Aside0.mk (below_step HB8.out h2); clear h2)
                  | (go_at_call 24; refine (current_v HE9.out HQ1.out.cur).mono ?_; rintro e w10 ⟨rfl, rfl⟩))
                go_ret
                exact ⟨rfl, HB9.out⟩
      · go_wp2
        clear e1
        obtain ⟨HBq, HEq, HPq, HQq, HLq⟩ := (⟨HBr, HE, HPR, HQ, HPL⟩ : _ ∧ _ ∧ _ ∧ _ ∧ _)
        clear HBr HE HPR HQ HPL
        go_loopw [14] (fun rr wr => ∃ (q b : Nat) (s : St) (pl : List Int), rr = .int .i64 ((q : Int) + 1) ∧ Aside0 (q ≤ 20 ∧ b ≤ 240 + 480 * q ∧ (∀ x, nget s.pins x ≤ 240) ∧ Rest (last : Int) b s ∧ PL pl s ∧ Ep wr H s ∧ PRow wr (H + 5) G pl) ∧ Aside0 (Below w.heap.size w wr)) (fun rr _ => 100 - (Go.RowKit.intOf rr).toNat)
        case atStart => exact ⟨0, b, s, pl, by go_num, ⟨by omega, by have := BB.out; omega, fun x => by have h1 := HQq.out.ok.pin9 x; have h2 := BB.out; omega, HQq.out, HLq.out, HEq.out, HPq.out⟩, HBq⟩
        case round =>
          clear HBq HEq HPq HQq HLq BB
          obtain ⟨q, b, s, pl, rfl, HK, HBr⟩ := hrel
          obtain ⟨p1, p2, p3, p4, p5, p6, p7⟩ := HK.out
          have HQ := Aside0.mk p4
          have HPL := Aside0.mk p5
          have HE := Aside0.mk p6
          have HPR := Aside0.mk p7
          have P3 := Aside0.mk p3
          have P2 := Aside0.mk p2
          clear HK p3 p4 p5 p6 p7
          by_cases hq : q < 20
          · have Q20 := Aside0.mk hq
            have k1 : (q : Int) + 1 ≤ 20 := by omega
            have HW := Aside0.mk (show wrap64 ((q : Int) + 1 + 1) = (q : Int) + 1 + 1 from wrap_add1 (by omega) (by omega))
            clear hq p1 p2
            go_wp2
            clear k1
            go_loopw [97] (fun _ wr => ∃ (b : Nat) (s : St) (pl : List Int), Aside0 (b + 2 * (nget s.pins ((q + 1 : Nat) : Int)).toNat ≤ 240 + 480 * (q + 1) ∧ (∀ x, nget s.pins x ≤ 240) ∧ Rest (last : Int) b s ∧ PL pl s ∧ Ep wr H s ∧ PRow wr (H + 5) G pl) ∧ Aside0 (Below w.heap.size w wr)) (fun _ wr => pcell wr G (q + 1))
            case atStart => exact ⟨b, s, pl, ⟨by have h1 := P3.out ((q + 1 : Nat) : Int); have h2 := P2.out; omega, P3.out, HQ.out, HPL.out, HE.out, HPR.out⟩, HBr⟩
            case round =>
              clear HBr HE HPR HQ HPL P3 P2
              obtain ⟨b, s, pl, HK, HBr⟩ := hrel
              obtain ⟨p2, p3, p4, p5, p6, p7⟩ := HK.out
              have HQ := Aside0.mk p4
              have HPL := Aside0.mk p5
              have HE := Aside0.mk p6
              have HPR := Aside0.mk p7
              have P3 := Aside0.mk p3
              have P2 := Aside0.mk p2
              obtain ⟨hg1, hg2⟩ := prow_at p7 (q + 1) (by have := Q20.out; omega)
              clear HK p2 p3 p4 p5 p6 p7
              by_cases hl2 : q + 1 ≤ l2.length
              · obtain ⟨ad2, rfl, hb2⟩ := Cb_at HR2.out q (by omega)
                have hcl2 := (HBr.out.cell (p := ad2.add q) (lt_of_cell hb2)).trans hb2
                generalize hbb : l2.getD q false = bb at hcl2
                have k3 : (q : Int) + 1 ≤ (l2.length : Int) := by omega
                have k4 : (q : Int) < (l2.length : Int) := by omega
                have hw1 : wrap64 ((q : Int) + 1 - 1) = (q : Int) := by rw [Int.add_sub_cancel]; unfold wrap64; have := Q20.out; omega
                have hw2 : wrap64 (q : Int) = (q : Int) := by unfold wrap64; have := Q20.out; omega
                have k5 : (q : Int) + 1 < 21 := by have := Q20.out; omega
                clear hb2 hbb hl2
                have hvz := ap_at HPL.out q Q20.out
                have hv0 := HQ.out.ok.pin0 ((q : Int) + 1)
                have hv9 := P3.out ((q : Int) + 1)
                obtain ⟨v, ev⟩ : ∃ v, v = nget s.pins ((q : Int) + 1) := ⟨_, rfl⟩
                rw [← ev] at hvz hv0 hv9
                rw [hvz] at hg1
                have HVZ := Aside0.mk hvz
                have EV := Aside0.mk ev
                clear hvz ev
                by_cases hvp : 0 < v
                · cases bb with
                  | true =>
                    obtain ⟨d1, d2, d3⟩ := rest_unpin (r := (q : Int) + 1) HQ.out (by rw [← EV.out]; exact hvp)
                    have HD1 := Aside0.mk d1
                    have HD2 := Aside0.mk d2
                    rw [← EV.out] at d3
                    have HD3 := Aside0.mk d3
                    have HPL2 := Aside0.mk (ap_set HPL.out Q20.out d3)
                    have hws : wrap64 (v - 1) = v - 1 := wrap_sub1 (by omega) (by omega)
                    have HVB := Aside0.mk (show 0 < v ∧ v ≤ 240 from ⟨hvp, hv9⟩)
                    have HEP : Aside0 (s.ep ≤ 4611686018427387904) := ⟨by have h1 := HQ.out.ok.ep9; have h2 := P2.out; have h3 := Q20.out; omega⟩
                    have HPB : Aside0 (nget s.pins ((q : Int) + 1) ≤ 4611686018427387904) := ⟨by rw [← EV.out]; omega⟩
                    have QL := Aside0.mk (show q + 1 < 21 by have := Q20.out; omega)
                    have HPc := Aside0.mk hg1
                    clear d1 d2 d3 hv0 hv9
                    go_wp2_with (first
                      | (go_at_call 19; refine (unpin_v HE.out ((q : Int) + 1) HQ.out.ok.ep0 HEP.out (HQ.out.ok.pin0 _) HPB.out HD2.out rfl).mono ?_; rintro e w4 ⟨rfl, h1, h2⟩; have HE3 := Aside0.mk h1; have HP3 := Aside0.mk (prow_fr HPR.out h2); have HB3 := Aside0.mk (below_fr HBr.out h2 HH.out); have hr1 := (prow_at HP3.out (q + 1) QL.out).1; have hr2 := (prow_at HP3.out (q + 1) QL.out).2; rw [HVZ.out] at hr1; clear h1 h2 hg1 hg2 hcl2 hw1 hw2 k3 k4))
                    have hset := prow_set HP3.out (q + 1) (v - 1)
                    have HP4 := Aside0.mk hset.1
                    have HE4 := Aside0.mk (HE3.out.grown hset.2 HG.out)
                    have HB4 := Aside0.mk (HB3.out.setCell (p := ⟨G, q + 1, none⟩) (by have h1 := HH.out; have h2 := HG.out; show w.heap.size ≤ G; omega) (.int .i64 (v - 1)))
                    clear hset hws
                    go_roundw
                    case rel => exact ⟨b + 2, _, _, ⟨by have h1 := HD3.out ((q : Int) + 1); rw [if_pos rfl] at h1; rw [Int.natCast_succ, h1]; have h2 := P2.out; rw [Int.natCast_succ, ← EV.out] at h2; have h3 := HVB.out; omega, fun x => by rw [HD3.out x]; have h1 := P3.out x; have h3 := HVB.out; split <;> omega, HD1.out, HPL2.out, HE4.out, HP4.out⟩, HB4⟩
                    case measure => rw [pcell_of (prow_at HP4.out (q + 1) QL.out).1, pcell_of HPc.out, set_get HPL.out.len Q20.out]; have h3 := HVB.out; omega
                  | false =>
                    have hvn : (v == 0) = false := beq_eq_false_iff_ne.2 (by omega)
                    have hvn2 : ¬ v = 0 := by omega
                    go_wp2
                    go_roundw
                    case rel => exact ⟨q + 1, b, s, pl, (by first | exact num_succ | (rw [HW.out]; exact num_succ)), ⟨by have := Q20.out; omega, by have := P2.out; omega, P3.out, HQ.out, HPL.out, HE.out, HPR.out⟩, HBr⟩
                    case measure => first | exact meas2 Q20.out | (rw [HW.out]; exact meas2 Q20.out)
                · have hv00 : v = 0 := by omega
                  subst hv00
                  clear hvp hv0 hv9
                  cases bb with
                  | true =>
                    have HU := Aside0.mk (unpin_none (s := s) (r := (q : Int) + 1) EV.out.symm)
                    have HEP : Aside0 (s.ep ≤ 4611686018427387904) := ⟨by have h1 := HQ.out.ok.ep9; have h2 := P2.out; have h3 := Q20.out; omega⟩
                    have HPB : Aside0 (nget s.pins ((q : Int) + 1) ≤ 4611686018427387904) := ⟨by rw [← EV.out]; omega⟩
                    go_wp2_with (first
                      | (go_at_call 19; refine (unpin_v HE.out ((q : Int) + 1) HQ.out.ok.ep0 HEP.out (HQ.out.ok.pin0 _) HPB.out HU.out.2 HU.out.1).mono ?_; rintro e w4 ⟨rfl, h1, h2⟩; have HE3 := Aside0.mk h1; have HP3 := Aside0.mk (prow_fr HPR.out h2); have HB3 := Aside0.mk (below_fr HBr.out h2 HH.out); clear h1 h2))
                    go_roundw
                    case rel => exact ⟨q + 1, b, s, pl, (by first | exact num_succ | (rw [HW.out]; exact num_succ)), ⟨by have := Q20.out; omega, by have := P2.out; omega, P3.out, HQ.out, HPL.out, HE3.out, HP3.out⟩, HB3⟩
                    case measure => first | exact meas2 Q20.out | (rw [HW.out]; exact meas2 Q20.out)
                  | false =>
                    have HU := Aside0.mk (unpin_none (s := s) (r := (q : Int) + 1) EV.out.symm)
                    have HEP : Aside0 (s.ep ≤ 4611686018427387904) := ⟨by have h1 := HQ.out.ok.ep9; have h2 := P2.out; have h3 := Q20.out; omega⟩
                    have HPB : Aside0 (nget s.pins ((q : Int) + 1) ≤ 4611686018427387904) := ⟨by rw [← EV.out]; omega⟩
                    go_wp2_with (first
                      | (go_at_call 19; refine (unpin_v HE.out ((q : Int) + 1) HQ.out.ok.ep0 HEP.out (HQ.out.ok.pin0 _) HPB.out HU.out.2 HU.out.1).mono ?_; rintro e w4 ⟨rfl, h1, h2⟩; have HE3 := Aside0.mk h1; have HP3 := Aside0.mk (prow_fr HPR.out h2); have HB3 := Aside0.mk (below_fr HBr.out h2 HH.out); clear h1 h2))
                    go_roundw
                    case rel => exact ⟨q + 1, b, s, pl, (by first | exact num_succ | (rw [HW.out]; exact num_succ)), ⟨by have := Q20.out; omega, by have := P2.out; omega, P3.out, HQ.out, HPL.out, HE3.out, HP3.out⟩, HB3⟩
                    case measure => first | exact meas2 Q20.out | (rw [HW.out]; exact meas2 Q20.out)
              · have k3 : ¬ (q : Int) + 1 ≤ (l2.length : Int) := by omega
                have k5 : (q : Int) + 1 < 21 := by have := Q20.out; omega
                clear hl2
                have hvz := ap_at HPL.out q Q20.out
                have hv0 := HQ.out.ok.pin0 ((q : Int) + 1)
                obtain ⟨v, ev⟩ : ∃ v, v = nget s.pins ((q : Int) + 1) := ⟨_, rfl⟩
                rw [← ev] at hvz hv0
                rw [hvz] at hg1
                have HVZ := Aside0.mk hvz
                have EV := Aside0.mk ev
                clear hvz ev
                by_cases hvp : 0 < v
                · have hvn : (v == 0) = false := beq_eq_false_iff_ne.2 (by omega)
                  have hvn2 : ¬ v = 0 := by omega
                  go_wp2
                  go_roundw
                  case rel => exact ⟨q + 1, b, s, pl, (by first | exact num_succ | (rw [HW.out]; exact num_succ)), ⟨by have := Q20.out; omega, by have := P2.out; omega, P3.out, HQ.out, HPL.out, HE.out, HPR.out⟩, HBr⟩
                  case measure => first | exact meas2 Q20.out | (rw [HW.out]; exact meas2 Q20.out)
                · have hv00 : v = 0 := by omega
                  subst hv00
                  clear hvp hv0
                  have HU := Aside0.mk (unpin_none (s := s) (r := (q : Int) + 1) EV.out.symm)
                  have HEP : Aside0 (s.ep ≤ 4611686018427387904) := ⟨by have h1 := HQ.out.ok.ep9; have h2 := P2.out; have h3 := Q20.out; omega⟩
                  have HPB : Aside0 (nget s.pins ((q : Int) + 1) ≤ 4611686018427387904) := ⟨by rw [← EV.out]; omega⟩
                  go_wp2_with (first
                    | (go_at_call 19; refine (unpin_v HE.out ((q : Int) + 1) HQ.out.ok.ep0 HEP.out (HQ.out.ok.pin0 _) HPB.out HU.out.2 HU.out.1).mono ?_; rintro e w4 ⟨rfl, h1, h2⟩; have HE3 := Aside0.mk h1; have HP3 := Aside0.mk (prow_fr HPR.out h2); have HB3 := Aside0.mk (below_fr HBr.out h2 HH.out); clear h1 h2))
                  go_roundw
                  case rel => exact ⟨q + 1, b, s, pl, (by first | exact num_succ | (rw [HW.out]; exact num_succ)), ⟨by have := Q20.out; omega, by have := P2.out; omega, P3.out, HQ.out, HPL.out, HE3.out, HP3.out⟩, HB3⟩
                  case measure => first | exact meas2 Q20.out | (rw [HW.out]; exact meas2 Q20.out)
          · have k1 : ¬ (q : Int) + 1 ≤ 20 := by omega
            have HB99 := Aside0.mk (show b ≤ 20000 by have h1 := P2.out; omega)
            clear hq p1 p2
            obtain ⟨d1, d2⟩ := rest_reclaim HQ.out
            have HQ1 := Aside0.mk d1
            have HRT := Aside0.mk d2
            have HPL1 := Aside0.mk (HPL.out.same (t := s.reclaim) rfl)
            obtain ⟨d1, d2⟩ := rest_again HQ1.out HRT.out
            have HA1 := Aside0.mk d1
            have HA2 := Aside0.mk d2
            clear d1 d2
            go_wp2_with (first
              | (go_at_call 21; refine (reclaim_v HE.out (by have h1 := HQ.out.ok.ret; have h2 := HB99.out; omega) rfl rfl rfl).mono ?_; rintro e w5 ⟨A4, c4, rfl, h3, h4, h1, h2⟩; have HE5 := Aside0.mk h1; have HP5 := Aside0.mk (prow_fr HPR.out h2); have HB5 := Aside0.mk (below_fr HBr.out h2 HH.out); clear h1 h2 h3 h4))
            clear HE HPR HBr k1
            generalize s.reclaim = t at HQ1 HRT HPL1 HA1 HA2 HE5
            have G5 := Aside0.mk (prow_ge HP5.out)
            have W5 := Aside0.mk (show w.heap.size ≤ w5.heap.size from HB5.out.size)
            go_loopw [15, 16] (fun v rr wr => ∃ (q : Nat), rr = .int .i64 ((q : Int) + 1) ∧ Aside0 (q ≤ 20 ∧ wr.ownsRow w5.heap.size 3 1 v (wants (last : Int) t q).length (nums .i64 (wants (last : Int) t q)) ∧ Below w5.heap.size w5 wr)) (fun _ rr _ => 100 - (Go.RowKit.intOf rr).toNat)
            case atStart => exact ⟨0, by go_num, ⟨by omega, own_nil _ _ _ _, Below.refl _ _⟩⟩
            case round =>
              obtain ⟨q, rfl, HK⟩ := hrel
              obtain ⟨p1, p2, p3⟩ := HK.out
              have HO := Aside0.mk p2
              have HBw := Aside0.mk p3
              have HPw := Aside0.mk (pw_own_below HP5.out p3)
              clear HK p2 p3
              by_cases hq : q < 20
              · have Q20 := Aside0.mk hq
                have k1 : (q : Int) + 1 ≤ 20 := by omega
                have k5 : (q : Int) + 1 < 21 := by omega
                have HW := Aside0.mk (show wrap64 ((q : Int) + 1 + 1) = (q : Int) + 1 + 1 from wrap_add1 (by omega) (by omega))
                obtain ⟨hg1, hg2⟩ := prow_at HPw.out (q + 1) (by omega)
                rw [ap_at HPL1.out q hq] at hg1
                clear hq p1
                obtain ⟨v, ev⟩ : ∃ v, v = nget t.pins ((q : Int) + 1) := ⟨_, rfl⟩
                rw [← ev] at hg1
                have EV := Aside0.mk ev
                clear ev
                by_cases hvp : 0 < v
                · have HN := Aside0.mk (wants_pos (last := (last : Int)) (s := t) (q := q) (.inl (by rw [← EV.out]; exact hvp)))
                  go_wp2_with (first
                    | (at_builtin; refine print_append_num (w0 := wr) (W := wr) w5.heap.size rfl _ _ 28 3 .i64 8 rfl Try.underlying28 info3 (by decide) u15 (wants (last : Int) t q) ((q : Int) + 1) rfl rfl HO.out (Below.refl _ _) HBw.out.size (by have h1 := wants_len (last : Int) t q; have h2 := Q20.out; omega) ?_; intro v1 w6 hown hB hg hat; clear hg hat; have HO6 := Aside0.mk hown; have HB6 := Aside0.mk (HBw.out.trans hB); clear hown hB))
                  go_roundw
                  case rel => exact ⟨q + 1, (by first | exact num_succ | (rw [HW.out]; exact num_succ)), ⟨by have h2 := Q20.out; omega, by rw [HN.out]; exact HO6.out, HB6.out⟩⟩
                  case measure => first | exact meas2 Q20.out | (rw [HW.out]; exact meas2 Q20.out)
                · by_cases hql : (q : Int) + 1 = (last : Int)
                  · have hqb : ((q : Int) + 1 == (last : Int)) = true := beq_iff_eq.2 hql
                    have HQLa := Aside0.mk hql
                    clear hql
                    have HN := Aside0.mk (wants_pos (last := (last : Int)) (s := t) (q := q) (.inr HQLa.out))
                    go_wp2_with (first
                      | (at_builtin; refine print_append_num (w0 := wr) (W := wr) w5.heap.size rfl _ _ 28 3 .i64 8 rfl Try.underlying28 info3 (by decide) u15 (wants (last : Int) t q) ((q : Int) + 1) rfl rfl HO.out (Below.refl _ _) HBw.out.size (by have h1 := wants_len (last : Int) t q; have h2 := Q20.out; omega) ?_; intro v1 w6 hown hB hg hat; clear hg hat; have HO6 := Aside0.mk hown; have HB6 := Aside0.mk (HBw.out.trans hB); clear hown hB))
                    go_roundw
                    case rel => exact ⟨q + 1, (by first | exact num_succ | (rw [HW.out]; exact num_succ)), ⟨by have h2 := Q20.out; omega, by rw [HN.out]; exact HO6.out, HB6.out⟩⟩
                    case measure => first | exact meas2 Q20.out | (rw [HW.out]; exact meas2 Q20.out)
                  · have hqb : ((q : Int) + 1 == (last : Int)) = false := beq_eq_false_iff_ne.2 hql
                    have HN := Aside0.mk (wants_neg (last := (last : Int)) (s := t) (q := q) (by rw [← EV.out]; omega))
                    clear hql
                    go_wp2
                    go_roundw
                    case rel => exact ⟨q + 1, (by first | exact num_succ | (rw [HW.out]; exact num_succ)), ⟨by have h2 := Q20.out; omega, by rw [HN.out]; exact HO.out, HBw.out⟩⟩
                    case measure => first | exact meas2 Q20.out | (rw [HW.out]; exact meas2 Q20.out)
              · have hq20 : q = 20 := by omega
                subst hq20
                have k1 : ¬ ((20 : Nat) : Int) + 1 ≤ 20 := by omega
                obtain ⟨A8, c8, rfl, hC8, k8⟩ := prow_c HO.out
                have HEw := Aside0.mk (HE5.out.keep (w' := wr) (fun j h1 h2 => HBw.out.block j (by have := HE5.out.lt; omega)))
                have HLV := Aside0.mk (rest_lives HQ1.out HRT.out HEw.out.ever.nodup)
                have HBB := Aside0.mk (show Below w.heap.size w wr from below_then HB5.out HB5.out.size HBw.out)
                have WL := Aside0.mk (wants_len (last : Int) t 20)
                have K8 := Aside0.mk k8
                obtain ⟨L, eL⟩ : ∃ L, L = wants (last : Int) t 20 := ⟨_, rfl⟩
                rw [← eL] at HO HLV hC8 WL K8 ⊢
                clear hq p1 eL hC8 k8
                go_wp2_with (first
                  | (go_at_call 21; refine (reclaim_v HEw.out (by have h1 := HQ1.out.ok.ret; have h2 := HB99.out; omega) HA1.out rfl HA2.out).mono ?_; rintro e w7 ⟨A7, c7, rfl, h3, h4, h1, h2⟩; have HE7 := Aside0.mk h1; have HB7 := Aside0.mk (below_fr HBB.out h2 HH.out); have HO7 := Aside0.mk (own_fr HO.out (fun j h5 h6 => h2.block j h6 (.inr (by have := HE5.out.lt; omega)))); clear h1 h2 h3 h4)
                  | (go_at_call 25; refine (lives_v HE7.out HQ1.out.ok.keys (by have h1 := HQ1.out.ok.ever; have h2 := HB99.out; omega) HLV.out).mono ?_; rintro e w8 ⟨A9, c9, rfl, h3, h4, h2⟩; have HE8 := Aside0.mk (HE7.out.below h2); have HB8 := Aside0.mk (below_step HB7.out h2); have HC9 := Aside0.mk h4; have K9 := Aside0.mk h3; have HC8 : Aside0 (Kd.C (Kd.int .i64) w8 A8 L.length L) := ⟨by obtain ⟨A', c', hv', hC', _⟩ := prow_c (pw_own_below HO7.out h2); cases hv'; exact hC'⟩; clear h2 h3 h4)
                  | (go_at_call 23; refine (same_c A9 c9 A8 c8 L w8 (by have h1 := WL.out; omega) HC9.out K9.out HC8.out K8.out).mono ?_; rintro e w9 ⟨rfl, h2⟩; have HE9 := Aside0.mk (HE8.out.below h2); have HB9 := Aside0.mk (below_step HB8.out h2); clear h2)
                  | (go_at_call 24; refine (current_v HE9.out HQ1.out.cur).mono ?_; rintro e w10 ⟨rfl, rfl⟩))
                go_ret
                exact ⟨rfl, HB9.out⟩
end Go.Proofs.Ytfiehglbpcjkfaa.Hand
