/- The statement EpochAgain: it returns true. -/
import Derived.Test.YtfiehglbpcjkfaaEpK
namespace Go.Proofs.Ytfiehglbpcjkfaa.Hand
open Go.Proofs Go Go.MapKept Go.RowKit Go.Proofs.YtfiehglbpcjkfaaW.PrintWords Go.Proofs.YtfiehglbpcjkfaaW.PrintLast Go.Proofs.YtfiehglbpcjkfaaW.PrintMore
set_option linter.unusedVariables false
set_option linter.unusedSectionVars false
set_option linter.unusedSimpArgs false
structure Again (c o : Int) (b : Nat) (s : St) : Prop where
  cur : s.cur = c
  pins : s.pins = []
  ins : s.ins = []
  ever : lget s.ever c = some true
  ok : Ok b s
  ret : s.ret = [] ∨ ∃ e, s.ret = [(o, e)]
theorem again_pub {c o : Int} {b : Nat} {s : St} (h : Again c o b s) (hne : c ≠ o) (h1 : 1 ≤ c) (h2 : 1 ≤ o) (h9 : o ≤ 100) :
    Again o c (b + 3) (s.publish o) ∧ (∃ e, (s.publish o).ret = [(c, e)]) ∧ lget (s.publish o).ever c = some true := by
  have hr : ∃ e, (s.publish o).ret = [(c, e)] := by
    unfold St.publish
    rw [if_neg (by omega), if_neg (by rw [h.cur]; exact fun e => hne e.symm)]
    refine ⟨s.ep + 1, ?_⟩
    show ldel (St.retire _ _).ret o = _
    unfold St.retire
    rw [if_pos ⟨by rw [h.cur]; omega, by show nget s.pins _ = 0; rw [h.pins]; rfl⟩]
    show ldel (lput s.ret s.cur (s.ep + 1)) o = _
    rw [h.cur]
    rcases h.ret with e | ⟨e1, e⟩
    · rw [e]
      show ldel [(c, _)] o = _
      unfold ldel
      rw [List.filter_cons_of_pos (by simpa using hne)]
      rfl
    · rw [e, lput_new (by simpa using hne)]
      unfold ldel
      rw [List.cons_append, List.filter_cons_of_neg (by simp), List.nil_append, List.filter_cons_of_pos (by simpa using hne)]
      rfl
  refine ⟨⟨pub_cur h2, by rw [pub_pins, h.pins], by rw [pub_ins, h.ins], ?_, h.ok.publish o (WalkArith.wf_i64 (by omega)), .inr hr⟩, hr, ?_⟩
  · rw [pub_ever, if_pos ⟨h2, by rw [h.cur]; exact fun e => hne e.symm, rfl⟩]
  · rw [pub_ever, if_neg (fun e => hne e.2.2), h.ever]
theorem again_gone {c o : Int} {b : Nat} {s : St} (h : Again c o b s) (h1 : 1 ≤ c) : s.gone c = false := gone_of_live (live_of_cur h.cur.symm (by omega))
theorem again_held {c o : Int} {b : Nat} {s : St} (hr : ∃ e, s.ret = [(o, e)]) : s.gone o = false := by
  obtain ⟨e, hr⟩ := hr
  refine gone_of_live (live_of_ret ?_)
  rw [hr, lget_isSome]
  simp
theorem again_rec {c o : Int} {b : Nat} {s : St} (h : Again c o b s) (hne : c ≠ o) (hr : ∃ e, s.ret = [(o, e)]) (he : lget s.ever o = some true) :
    Again c o b s.reclaim ∧ s.freed = [o] ∧ s.reclaim.gone o = true := by
  obtain ⟨e, hr⟩ := hr
  refine ⟨⟨h.cur, h.pins, h.ins, h.ever, h.ok.reclaim, .inl (reclaim_none h.ins)⟩, by rw [freed_none h.ins, hr]; simp, gone_true he (by rw [reclaim_none h.ins]; rfl) (by rw [show s.reclaim.pins = s.pins from rfl, h.pins]; rfl) (by rw [show s.reclaim.cur = s.cur from rfl, h.cur]; exact fun e => hne e.symm)⟩
theorem again_start {a : Int} (o : Int) (h1 : 1 ≤ a) (h9 : a ≤ 100) : Again a o 3 (St.new.publish a) := by
  refine ⟨pub_cur h1, by rw [pub_pins]; rfl, by rw [pub_ins]; rfl, ?_, Ok.new.publish a (WalkArith.wf_i64 (by omega)), .inl ?_⟩
  · rw [pub_ever, if_pos ⟨h1, by show a ≠ 0; omega, rfl⟩]
  · unfold St.publish
    rw [if_neg (by omega), if_neg (by show ¬ a = 0; omega)]
    rfl
set_option maxHeartbeats 2000000 in
set_option maxRecDepth 100000 in
theorem again_walk (a0 b0 : Int) (A : Option Addr) (c : Nat) (l : List Bool) (w : World) (_ : (Lit.int .i64 a0).wf = true) (_ : (Lit.int .i64 b0).wf = true) (hr : Kd.C Kd.bool w A l.length l) (hc : l.length ≤ c) :
    Calls Try.prog 7 #[.int .i64 a0, .int .i64 b0, .slice A l.length c] w fun e w' => e = .returned (.bool true) ∧ Below w.heap.size w w' := by
  have HR := Aside0.mk hr
  clear hr
  have t1_ : True := trivial
  obtain ⟨a, ha, a1, a9⟩ := pickn a0 1 9 (by omega) (by omega) (by omega) (by omega)
  obtain ⟨b, hb, b1, b9⟩ := pickn b0 1 9 (by omega) (by omega) (by omega) (by omega)
  have HA := Aside0.mk (show 1 ≤ a ∧ a < 10 by omega)
  have HB0 := Aside0.mk (show 1 ≤ b ∧ b < 10 by omega)
  have hpa : pubErr (a : Int) = 0 := by unfold pubErr; rw [if_neg (by omega)]
  have HS := Aside0.mk (again_start (b : Int) (show (1 : Int) ≤ (a : Int) by omega) (by omega))
  clear a1 a9 b1 b9
  by_cases hab : a = b
  · have h1 : (a : Int) = (b : Int) := by rw [hab]
    have h2 : ((a : Int) == (b : Int)) = true := beq_iff_eq.2 h1
    clear hab h1 hpa
    go_enter Try.func7, Try.ntmps7
    go_wp2_with (first
      | (go_at_call 9; refine (shown_c _).mono ?_; rintro e w1 ⟨rfl, hb1⟩; have HB := Aside0.mk hb1; clear hb1)
      | (go_at_call 10; refine (new_c _).mono ?_; rintro e w2 ⟨rfl, h1, h2_, h3⟩; have HBr := Aside0.mk (below_step HB.out h2_); clear h1 h2_ h3 HB))
    go_ret
    exact ⟨rfl, HBr.out⟩
  · have HNE := Aside0.mk (show (a : Int) ≠ (b : Int) by omega)
    have HNE2 := Aside0.mk (show (b : Int) ≠ (a : Int) by omega)
    have h2 : ((a : Int) == (b : Int)) = false := beq_eq_false_iff_ne.2 HNE.out
    clear hab
    go_enter Try.func7, Try.ntmps7
    go_wp2_with (first
      | (go_at_call 9; refine (shown_c _).mono ?_; rintro e w1 ⟨rfl, hb1⟩; have HB := Aside0.mk hb1; clear hb1)
      | (go_at_call 10; refine (new_c _).mono ?_; rintro e w2 ⟨rfl, h1, h2_, h3⟩; obtain ⟨H, eH⟩ : ∃ H, H = w1.heap.size := ⟨_, rfl⟩; have HH := Aside0.mk (show w.heap.size ≤ H by rw [eH]; exact HB.out.size); have HBr := Aside0.mk (below_step HB.out h2_); rw [← eH] at h1 ⊢; have HE := Aside0.mk h1; clear h1 h2_ h3 eH HB)
      | (go_at_call 11; refine (publish_v HE.out (a : Int) (by decide) (by decide) rfl hpa).mono ?_; rintro e w3 ⟨rfl, h1, h2_⟩; have HE2 := Aside0.mk h1; have HB2 := Aside0.mk (below_fr HBr.out h2_ HH.out); clear h1 h2_))
    clear ha hb h2 hpa HE HBr
    go_loopw [9] (fun i wr => ∃ (k : Nat) (cu ot : Int) (bd : Nat) (s : St), i = .int .i64 (k : Int) ∧ Aside0 (k ≤ 20 ∧ (k % 2 = 0 ∧ cu = (a : Int) ∧ ot = (b : Int) ∨ k % 2 = 1 ∧ cu = (b : Int) ∧ ot = (a : Int)) ∧ bd ≤ 3 + 3 * k ∧ Again cu ot bd s ∧ Ep wr H s) ∧ Aside0 (Below w.heap.size w wr)) (fun i _ => 100 - (Go.RowKit.intOf i).toNat)
    case atStart => exact ⟨0, a, b, 3, _, rfl, ⟨by omega, .inl ⟨rfl, rfl, rfl⟩, by omega, HS.out, HE2.out⟩, HB2⟩
    case round =>
      clear HE2 HB2 HS
      obtain ⟨k, cu, ot, bd, s, rfl, HK, HBr⟩ := hrel
      obtain ⟨q0, q1, q2, q3, q4⟩ := HK.out
      have HE := Aside0.mk q4
      have B9 := Aside0.mk q2
      by_cases hlt : k < l.length ∧ k < 20
      · obtain ⟨g1, g2⟩ := hlt
        obtain ⟨ad, rfl, hcell0⟩ := Cb_at HR.out k g1
        have hblk := Aside0.mk (lt_of_cell hcell0)
        have hcell := hcell0
        clear hcell0
        generalize hbb : l.getD k false = bb at hcell
        clear hbb
        have k1 : (k : Int) < (l.length : Int) := by omega
        have k2 : (k : Int) < 20 := by omega
        have hw : wrap64 ((k : Int) + 1) = (k : Int) + 1 := wrap_add1 (by omega) (by omega)
        have B9 := Aside0.mk (show bd ≤ 100 ∧ bd ≤ 3 + 3 * k by omega)
        have t1 : True := trivial
        rcases q1 with ⟨e1, rfl, rfl⟩ | ⟨e1, rfl, rfl⟩
        · have hm : (k : Int).tmod 2 = 0 := by rw [Int.tmod_eq_emod_of_nonneg (by omega)]; omega
          have HP := Aside0.mk q3
          clear HK q2 q3 q4
          cases bb with
          | true =>
          obtain ⟨d1, d2, d3⟩ := again_pub HP.out HNE.out (by have := HA.out; omega) (by have := HB0.out; omega) (by have := HB0.out; omega)
          have HD := Aside0.mk d1
          have HD2 := Aside0.mk d2
          have HD3 := Aside0.mk d3
          have hpe : pubErr (b : Int) = 0 := by unfold pubErr; rw [if_neg (by have := HB0.out; omega)]
          clear d1 d2 d3
          obtain ⟨d1, d2, d3⟩ := again_rec HD.out HNE2.out HD2.out HD3.out
          have HR1 := Aside0.mk d1
          have HR2 := Aside0.mk d2
          have HR3 := Aside0.mk d3
          clear d1 d2 d3
          go_wp2_with (first
            | (go_at_call 11; refine (publish_v HE.out (b : Int) HP.out.ok.ep0 (by have := HP.out.ok.ep9; have := B9.out; omega) rfl hpe).mono ?_; rintro e w3 ⟨rfl, h1, h2⟩; have HE2 := Aside0.mk h1; have HB2 := Aside0.mk (below_fr HBr.out h2 HH.out); have hcl : w3.cell? (ad.add k) = some (.bool true) := (HB2.out.cell (p := ad.add k) hblk.out).trans hcell; clear h1 h2)
            | (go_at_call 24; refine (current_v HE2.out HD.out.cur).mono ?_; rintro e w5 ⟨rfl, rfl⟩)
            | (have tok := t1; go_at_call 27; refine (gone_v HE2.out (b : Int) (again_gone HD.out (by have := HB0.out; omega))).mono ?_; rintro e w5 ⟨rfl, rfl⟩; clear tok t1)
            | (go_at_call 21; refine (reclaim_v HE2.out (by have := HD.out.ok.ret; have := B9.out; omega) HR2.out rfl rfl).mono ?_; rintro e w7 ⟨A4, c4, rfl, h3, h4, h1, h2⟩; obtain ⟨ad4, rfl, hc4, _⟩ := C_one h4; have HE3 := Aside0.mk h1; have HB3 := Aside0.mk (below_fr HB2.out h2 HH.out); clear h1 h2 h3 h4)
            | (go_at_call 27; refine (gone_v HE3.out (a : Int) HR3.out).mono ?_; rintro e w5 ⟨rfl, rfl⟩))
          go_roundw
          case rel => exact ⟨k + 1, _, _, _, _, by go_num, ⟨by omega, .inr ⟨by omega, rfl, rfl⟩, by have := B9.out; omega, HR1.out, HE3.out⟩, HB3⟩
          case measure => first | exact meas g2 (by omega) | (rw [hw]; exact meas g2 (by omega))
          | false =>
          obtain ⟨d1, d2, d3⟩ := again_pub HP.out HNE.out (by have := HA.out; omega) (by have := HB0.out; omega) (by have := HB0.out; omega)
          have HD := Aside0.mk d1
          have HD2 := Aside0.mk d2
          have HD3 := Aside0.mk d3
          have hpe : pubErr (b : Int) = 0 := by unfold pubErr; rw [if_neg (by have := HB0.out; omega)]
          clear d1 d2 d3
          go_wp2_with (first
            | (go_at_call 11; refine (publish_v HE.out (b : Int) HP.out.ok.ep0 (by have := HP.out.ok.ep9; have := B9.out; omega) rfl hpe).mono ?_; rintro e w3 ⟨rfl, h1, h2⟩; have HE2 := Aside0.mk h1; have HB2 := Aside0.mk (below_fr HBr.out h2 HH.out); have hcl : w3.cell? (ad.add k) = some (.bool false) := (HB2.out.cell (p := ad.add k) hblk.out).trans hcell; clear h1 h2)
            | (go_at_call 24; refine (current_v HE2.out HD.out.cur).mono ?_; rintro e w5 ⟨rfl, rfl⟩)
            | (have tok := t1; go_at_call 27; refine (gone_v HE2.out (b : Int) (again_gone HD.out (by have := HB0.out; omega))).mono ?_; rintro e w5 ⟨rfl, rfl⟩; clear tok t1)
            | (go_at_call 27; refine (gone_v HE2.out (a : Int) (again_held (c := (b : Int)) (b := 0) HD2.out)).mono ?_; rintro e w5 ⟨rfl, rfl⟩))
          go_roundw
          case rel => exact ⟨k + 1, _, _, _, _, by go_num, ⟨by omega, .inr ⟨by omega, rfl, rfl⟩, by have := B9.out; omega, HD.out, HE2.out⟩, HB2⟩
          case measure => first | exact meas g2 (by omega) | (rw [hw]; exact meas g2 (by omega))
        · have hm : (k : Int).tmod 2 = 1 := by rw [Int.tmod_eq_emod_of_nonneg (by omega)]; omega
          have HP := Aside0.mk q3
          clear HK q2 q3 q4
          cases bb with
          | true =>
          obtain ⟨d1, d2, d3⟩ := again_pub HP.out HNE2.out (by have := HB0.out; omega) (by have := HA.out; omega) (by have := HA.out; omega)
          have HD := Aside0.mk d1
          have HD2 := Aside0.mk d2
          have HD3 := Aside0.mk d3
          have hpe : pubErr (a : Int) = 0 := by unfold pubErr; rw [if_neg (by have := HA.out; omega)]
          clear d1 d2 d3
          obtain ⟨d1, d2, d3⟩ := again_rec HD.out HNE.out HD2.out HD3.out
          have HR1 := Aside0.mk d1
          have HR2 := Aside0.mk d2
          have HR3 := Aside0.mk d3
          clear d1 d2 d3
          go_wp2_with (first
            | (go_at_call 11; refine (publish_v HE.out (a : Int) HP.out.ok.ep0 (by have := HP.out.ok.ep9; have := B9.out; omega) rfl hpe).mono ?_; rintro e w3 ⟨rfl, h1, h2⟩; have HE2 := Aside0.mk h1; have HB2 := Aside0.mk (below_fr HBr.out h2 HH.out); have hcl : w3.cell? (ad.add k) = some (.bool true) := (HB2.out.cell (p := ad.add k) hblk.out).trans hcell; clear h1 h2)
            | (go_at_call 24; refine (current_v HE2.out HD.out.cur).mono ?_; rintro e w5 ⟨rfl, rfl⟩)
            | (have tok := t1; go_at_call 27; refine (gone_v HE2.out (a : Int) (again_gone HD.out (by have := HA.out; omega))).mono ?_; rintro e w5 ⟨rfl, rfl⟩; clear tok t1)
            | (go_at_call 21; refine (reclaim_v HE2.out (by have := HD.out.ok.ret; have := B9.out; omega) HR2.out rfl rfl).mono ?_; rintro e w7 ⟨A4, c4, rfl, h3, h4, h1, h2⟩; obtain ⟨ad4, rfl, hc4, _⟩ := C_one h4; have HE3 := Aside0.mk h1; have HB3 := Aside0.mk (below_fr HB2.out h2 HH.out); clear h1 h2 h3 h4)
            | (go_at_call 27; refine (gone_v HE3.out (b : Int) HR3.out).mono ?_; rintro e w5 ⟨rfl, rfl⟩))
          go_roundw
          case rel => exact ⟨k + 1, _, _, _, _, by go_num, ⟨by omega, .inl ⟨by omega, rfl, rfl⟩, by have := B9.out; omega, HR1.out, HE3.out⟩, HB3⟩
          case measure => first | exact meas g2 (by omega) | (rw [hw]; exact meas g2 (by omega))
          | false =>
          obtain ⟨d1, d2, d3⟩ := again_pub HP.out HNE2.out (by have := HB0.out; omega) (by have := HA.out; omega) (by have := HA.out; omega)
          have HD := Aside0.mk d1
          have HD2 := Aside0.mk d2
          have HD3 := Aside0.mk d3
          have hpe : pubErr (a : Int) = 0 := by unfold pubErr; rw [if_neg (by have := HA.out; omega)]
          clear d1 d2 d3
          go_wp2_with (first
            | (go_at_call 11; refine (publish_v HE.out (a : Int) HP.out.ok.ep0 (by have := HP.out.ok.ep9; have := B9.out; omega) rfl hpe).mono ?_; rintro e w3 ⟨rfl, h1, h2⟩; have HE2 := Aside0.mk h1; have HB2 := Aside0.mk (below_fr HBr.out h2 HH.out); have hcl : w3.cell? (ad.add k) = some (.bool false) := (HB2.out.cell (p := ad.add k) hblk.out).trans hcell; clear h1 h2)
            | (go_at_call 24; refine (current_v HE2.out HD.out.cur).mono ?_; rintro e w5 ⟨rfl, rfl⟩)
            | (have tok := t1; go_at_call 27; refine (gone_v HE2.out (a : Int) (again_gone HD.out (by have := HA.out; omega))).mono ?_; rintro e w5 ⟨rfl, rfl⟩; clear tok t1)
            | (go_at_call 27; refine (gone_v HE2.out (b : Int) (again_held (c := (a : Int)) (b := 0) HD2.out)).mono ?_; rintro e w5 ⟨rfl, rfl⟩))
          go_roundw
          case rel => exact ⟨k + 1, _, _, _, _, by go_num, ⟨by omega, .inl ⟨by omega, rfl, rfl⟩, by have := B9.out; omega, HD.out, HE2.out⟩, HB2⟩
          case measure => first | exact meas g2 (by omega) | (rw [hw]; exact meas g2 (by omega))
      · have hcase : (k : Int) < (l.length : Int) ∧ ¬ (k : Int) < 20 ∨ ¬ (k : Int) < (l.length : Int) := by omega
        clear hlt q1 q2 q3 q4 HK
        rcases hcase with ⟨e1, e2⟩ | e1
        · go_wp2
          go_ret
          exact ⟨rfl, HBr.out⟩
        · go_wp2
          go_ret
          exact ⟨rfl, HBr.out⟩
end Go.Proofs.Ytfiehglbpcjkfaa.Hand
