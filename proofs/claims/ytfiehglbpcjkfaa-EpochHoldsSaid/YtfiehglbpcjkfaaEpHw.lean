/- The statement EpochHolds: it returns true. -/
import Derived.Test.YtfiehglbpcjkfaaEpH
namespace Go.Proofs.Ytfiehglbpcjkfaa.Hand
open Go.Proofs Go Go.MapKept Go.RowKit Go.Proofs.YtfiehglbpcjkfaaW.PrintWords Go.Proofs.YtfiehglbpcjkfaaW.PrintLast Go.Proofs.YtfiehglbpcjkfaaW.PrintMore
set_option linter.unusedVariables false
set_option linter.unusedSectionVars false
set_option linter.unusedSimpArgs false
theorem spot_none {w : World} {a : Addr} {v : Value} (h : w.cell? a = some v) : a.spot = none := by
  unfold World.cell? at h
  split at h
  · split at h
    · cases h
    · rename_i hs
      simpa using hs
  · cases h
/-- A step of a slice: its two cells. -/
theorem Cs_at {w : World} {A : Option Addr} {n : Nat} {l : List (Int × Int)} (h : Kd.C kS w A n l) (k : Nat) (hk : k < n) :
    ∃ ad pb po, A = some ad ∧ ad.add (k * 2) = ⟨pb, po, none⟩ ∧ w.cell? ⟨pb, po, none⟩ = some (.int .i64 (l.getD k (0, 0)).1) ∧ w.cell? ⟨pb, po + 1, none⟩ = some (.int .i64 (l.getD k (0, 0)).2) ∧ pb < w.heap.size := by
  obtain ⟨ad, c, e, hs, hr, hc⟩ := ReadsRow.get_ h (0, 0) (k : Int) (by omega) (by omega)
  obtain ⟨c1, c2, hcc, h1, h2⟩ := hr
  have h1 : c1 = [.int .i64 (l.getD k (0, 0)).1] := h1
  have h2 : c2 = [.int .i64 (l.getD k (0, 0)).2] := h2
  subst h1 h2
  rw [hcc] at hc
  have e2 : ∀ j, ((k : Int).toNat * kS.sz + j) = k * 2 + j := fun j => by show (k : Int).toNat * 2 + j = k * 2 + j; omega
  have g1 := hc 0 _ rfl
  rw [e2, Nat.add_zero] at g1
  have g2 := hc 1 _ rfl
  rw [e2, ← Go.Deep.add_add] at g2
  have hsp := spot_none g1
  have hP : ad.add (k * 2) = ⟨(ad.add (k * 2)).block, (ad.add (k * 2)).off, none⟩ := by
    cases hx : ad.add (k * 2) with
    | mk b o s =>
      rw [hx] at hsp
      simp only at hsp
      rw [hsp]
  refine ⟨ad, _, _, e, hP, by rw [← hP]; exact g1, ?_, lt_of_cell g1⟩
  have : (ad.add (k * 2)).add 1 = ⟨(ad.add (k * 2)).block, (ad.add (k * 2)).off + 1, none⟩ := rfl
  rw [← this]
  exact g2
set_option maxHeartbeats 2000000 in
set_option maxRecDepth 100000 in
theorem holds_walk (A : Option Addr) (c : Nat) (l : List (Int × Int)) (A' : Option Addr) (c' : Nat) (l' : List (Int × Int)) (w : World) (hr : Kd.C kS w A l.length l) (hc : l.length ≤ c) (gd : ∀ q ∈ l, wfi q.1 ∧ wfi q.2) (hr' : Kd.C kS w A' l'.length l') (hc' : l'.length ≤ c') (gd' : ∀ q ∈ l', wfi q.1 ∧ wfi q.2) :
    Calls Try.prog 4 #[.slice A l.length c, .slice A' l'.length c'] w fun e w' => e = .returned (.bool true) ∧ Below w.heap.size w w' := by
  have HR := Aside0.mk hr
  have HR2 := Aside0.mk hr'
  have GD := Aside0.mk gd
  have GD2 := Aside0.mk gd'
  clear hr hr' gd gd'
  go_enter Try.func4, Try.ntmps4
  go_wp2_with (first
    | (go_at_call 9; refine (shown_c _).mono ?_; rintro e w1 ⟨rfl, hb1⟩; have HB := Aside0.mk hb1; clear hb1)
    | (go_at_call 10; refine (new_c _).mono ?_; rintro e w2 ⟨rfl, h1, h2_, h3⟩; obtain ⟨H, eH⟩ : ∃ H, H = w1.heap.size := ⟨_, rfl⟩; have HH := Aside0.mk (show w.heap.size ≤ H by rw [eH]; exact HB.out.size); have HBr := Aside0.mk (below_step HB.out h2_); rw [← eH] at h1 ⊢; have HE := Aside0.mk h1; clear h1 h2_ h3 eH HB))
  go_loopw [7, 8] (fun f t wr => ∃ (b : Nat) (fo : Int) (s : St), f = .int .i64 fo ∧ (t = .int .i64 0 ∧ Aside0 (b ≤ 0 ∧ Base b s ∧ NoK s ∧ Ep wr H s) ∨ t = .int .i64 1 ∧ Aside0 (b ≤ 190 ∧ Base b s ∧ NoK s ∧ Ep wr H s) ∨ t = .int .i64 2 ∧ Aside0 (s.gone fo = false ∧ Ep wr H s)) ∧ Aside0 (Below w.heap.size w wr)) (fun _ i _ => 100 - (Go.RowKit.intOf i).toNat)
  case atStart => exact ⟨0, 0, St.new, rfl, .inl ⟨rfl, ⟨by omega, Base.new, rfl, HE.out⟩⟩, HBr⟩
  case round =>
    clear HE HBr
    obtain ⟨b, fo, s, rfl, HU, HBr⟩ := hrel
    rcases HU with ⟨rfl, HU⟩ | ⟨rfl, HU⟩ | ⟨rfl, HU⟩
    · obtain ⟨q1, q2, q3, q4⟩ := HU.out
      have HBs := Aside0.mk q2
      have HN := Aside0.mk q3
      have HE := Aside0.mk q4
      clear HU q2 q3 q4
      go_wp2
      go_loopw [10] (fun i wr => ∃ (k b : Nat) (s : St), i = .int .i64 (k : Int) ∧ Aside0 (k ≤ 60 ∧ b ≤ 3 * k ∧ Base b s ∧ NoK s ∧ Ep wr H s) ∧ Aside0 (Below w.heap.size w wr)) (fun i _ => 100 - (Go.RowKit.intOf i).toNat)
      case atStart => exact ⟨0, b, s, rfl, ⟨by omega, by omega, HBs.out, HN.out, HE.out⟩, HBr⟩
      case round =>
        clear HE HBr HBs HN
        obtain ⟨k, b, s, rfl, HK, HBr⟩ := hrel
        obtain ⟨p1, p2, p3, p4, p5⟩ := HK.out
        have HE := Aside0.mk p5
        have HBs := Aside0.mk p3
        have HN := Aside0.mk p4
        have BB := Aside0.mk (show b ≤ 0 + 3 * k ∧ k ≤ 60 by omega)
        clear HK p3 p4 p5
        by_cases hlt : k < l.length ∧ k < 60
        · obtain ⟨g1, g2⟩ := hlt
          obtain ⟨ad, pb, po, rfl, hP, hc0, hc1, hc2⟩ := Cs_at HR.out k g1
          have hcell0 := (HBr.out.cell (p := ⟨pb, po, none⟩) hc2).trans hc0
          have hcell1 := (HBr.out.cell (p := ⟨pb, po + 1, none⟩) hc2).trans hc1
          have HW0 := (GD.out _ (List.getElem_mem g1)).2
          have hgd : l[k] = l.getD k (0, 0) := by rw [List.getD_eq_getElem?_getD, List.getElem?_eq_getElem g1]; rfl
          rw [hgd] at HW0
          clear hgd hc0 hc1 hc2
          generalize l.getD k (0, 0) = q at hcell0 hcell1 HW0
          have HW : Aside0 ((Lit.int .i64 q.2).wf = true) := ⟨WalkArith.wf_i64 HW0⟩
          have HM : Aside0 (Go.bits .and .i64 q.2 511 ≠ 1000) := ⟨by obtain ⟨m, hm, m0, m1⟩ := few511 q.2; rw [hm]; omega⟩
          have k1 : (k : Int) < (l.length : Int) := by omega
          have k2 : (k : Int) < 60 := by omega
          have hw : wrap64 ((k : Int) + 1) = (k : Int) + 1 := wrap_add1 (by omega) (by omega)
          have HX : Aside0 (∃ x, Base (b + 3) x ∧ (NoK x) ∧ Ep wr H x) := ⟨s, HBs.out.mono (by omega), HN.out, HE.out⟩
          have HB2 := HBr
          have G2 := Aside0.mk g2
          clear HW0 g1 g2 p1 p2
          go_wp2_with (first
            | (go_at_call 11; refine (publish_v HE.out q.2 HBs.out.ok.ep0 (by have := HBs.out.ok.ep9; have := BB.out; omega) rfl rfl).mono ?_; rintro e w6 ⟨rfl, h1, h2⟩; clear HX HB2; have HX : Aside0 (∃ x, Base (b + 3) x ∧ (NoK x) ∧ Ep w6 H x) := ⟨_, HBs.out.pub q.2 HW.out, HN.out.pub q.2, h1⟩; have HB2 := Aside0.mk (below_fr HBr.out h2 HH.out); clear h1 h2)
            | (go_at_call 13; refine (enter_v HE.out (Go.bits .and .i64 q.2 511) rfl rfl).mono ?_; rintro e w6 ⟨rfl, h1, h2⟩; clear HX HB2; have HX : Aside0 (∃ x, Base (b + 3) x ∧ (NoK x) ∧ Ep w6 H x) := ⟨_, HBs.out.enter _, HN.out.enter HM.out, h1⟩; have HB2 := Aside0.mk (below_fr HBr.out h2 HH.out); clear h1 h2)
            | (go_at_call 15; refine (leave_v HE.out (Go.bits .and .i64 q.2 511) rfl).mono ?_; rintro e w6 ⟨rfl, h1, h2⟩; clear HX HB2; have HX : Aside0 (∃ x, Base (b + 3) x ∧ (NoK x) ∧ Ep w6 H x) := ⟨_, HBs.out.leave _, HN.out.leave _, h1⟩; have HB2 := Aside0.mk (below_fr HBr.out h2 HH.out); clear h1 h2)
            | (go_at_call 17; refine (pin_v HE.out (HBs.out.ok.pin0 _) (by have := HBs.out.ok.pin9 s.cur; have := BB.out; omega) rfl rfl rfl).mono ?_; rintro e w6 ⟨rfl, h1, h2⟩; clear HX HB2; have HX : Aside0 (∃ x, Base (b + 3) x ∧ (NoK x) ∧ Ep w6 H x) := ⟨_, HBs.out.pin, HN.out.pin, h1⟩; have HB2 := Aside0.mk (below_fr HBr.out h2 HH.out); clear h1 h2)
            | (go_at_call 19; refine (unpin_v HE.out q.2 HBs.out.ok.ep0 (by have := HBs.out.ok.ep9; have := BB.out; omega) (HBs.out.ok.pin0 _) (by have := HBs.out.ok.pin9 q.2; have := BB.out; omega) rfl rfl).mono ?_; rintro e w6 ⟨rfl, h1, h2⟩; clear HX HB2; have HX : Aside0 (∃ x, Base (b + 3) x ∧ (NoK x) ∧ Ep w6 H x) := ⟨_, HBs.out.unpin q.2, HN.out.unpin q.2, h1⟩; have HB2 := Aside0.mk (below_fr HBr.out h2 HH.out); clear h1 h2)
            | (go_at_call 21; refine (reclaim_v HE.out (by have := HBs.out.ok.ret; have := BB.out; omega) rfl rfl rfl).mono ?_; rintro e w6 ⟨A6, c6, rfl, h3, h4, h1, h2⟩; clear HX HB2; have HX : Aside0 (∃ x, Base (b + 3) x ∧ (NoK x) ∧ Ep w6 H x) := ⟨_, HBs.out.reclaim, HN.out.reclaim, h1⟩; have HB2 := Aside0.mk (below_fr HBr.out h2 HH.out); clear h1 h2))
          all_goals go_roundw
          all_goals first
            | (obtain ⟨x, x1, x2, x3⟩ := HX.out; exact ⟨k + 1, b + 3, x, by go_num, ⟨by have := G2.out; omega, by have := BB.out; omega, x1, x2, x3⟩, HB2⟩)
            | exact meas G2.out (by omega)
            | (rw [hw]; exact meas G2.out (by omega))
        · have hcase : (k : Int) < (l.length : Int) ∧ ¬ (k : Int) < 60 ∨ ¬ (k : Int) < (l.length : Int) := by omega
          clear hlt p1 p2
          rcases hcase with ⟨e1, e2⟩ | e1
          · go_wp2
            go_roundw
            case rel => exact ⟨b, fo, s, rfl, .inr (.inl ⟨rfl, ⟨by have := BB.out; omega, HBs.out, HN.out, HE.out⟩⟩), HBr⟩
            case measure => decide
          · go_wp2
            go_roundw
            case rel => exact ⟨b, fo, s, rfl, .inr (.inl ⟨rfl, ⟨by have := BB.out; omega, HBs.out, HN.out, HE.out⟩⟩), HBr⟩
            case measure => decide
    · obtain ⟨q1, q2, q3, q4⟩ := HU.out
      have HE := Aside0.mk q4
      have HN0 := Aside0.mk (Hold.start q3 q2.cur)
      have HB0 := Aside0.mk (q2.enter 1000)
      have B0 := Aside0.mk (show b + 3 ≤ 193 by omega)
      clear HU q1 q2 q3 q4
      go_wp2_with (first
        | (go_at_call 13; refine (enter_v HE.out 1000 rfl rfl).mono ?_; rintro e w6 ⟨rfl, h1, h2⟩; clear HE; have HE := Aside0.mk h1; have HBn := Aside0.mk (below_fr HBr.out h2 HH.out); clear HBr h1 h2; have HBr := HBn; clear HBn))
      obtain ⟨fn, hfn⟩ : ∃ fn, fn = s.cur := ⟨_, rfl⟩
      obtain ⟨e0, he0⟩ : ∃ e0, e0 = s.ep := ⟨_, rfl⟩
      obtain ⟨s1, hs1⟩ : ∃ s1, s1 = s.enter 1000 := ⟨_, rfl⟩
      rw [← hfn, ← he0, ← hs1] at HN0
      rw [← hs1] at HB0 HE
      rw [← hfn]
      clear hfn he0 hs1
      go_loopw [10] (fun i wr => ∃ (k b : Nat) (s : St), i = .int .i64 (k : Int) ∧ Aside0 (k ≤ 60 ∧ b ≤ 193 + 3 * k ∧ Base b s ∧ Hold fn e0 s ∧ Ep wr H s) ∧ Aside0 (Below w.heap.size w wr)) (fun i _ => 100 - (Go.RowKit.intOf i).toNat)
      case atStart => exact ⟨0, _, s1, rfl, ⟨by omega, B0.out, HB0.out, HN0.out, HE.out⟩, HBr⟩
      case round =>
        clear HE HBr HB0 HN0
        obtain ⟨k, b, s, rfl, HK, HBr⟩ := hrel
        obtain ⟨p1, p2, p3, p4, p5⟩ := HK.out
        have HE := Aside0.mk p5
        have HBs := Aside0.mk p3
        have HN := Aside0.mk p4
        have BB := Aside0.mk (show b ≤ 193 + 3 * k ∧ k ≤ 60 by omega)
        clear HK p3 p4 p5
        by_cases hlt : k < l'.length ∧ k < 60
        · obtain ⟨g1, g2⟩ := hlt
          obtain ⟨ad, pb, po, rfl, hP, hc0, hc1, hc2⟩ := Cs_at HR2.out k g1
          have hcell0 := (HBr.out.cell (p := ⟨pb, po, none⟩) hc2).trans hc0
          have hcell1 := (HBr.out.cell (p := ⟨pb, po + 1, none⟩) hc2).trans hc1
          have HW0 := (GD2.out _ (List.getElem_mem g1)).2
          have hgd : l'[k] = l'.getD k (0, 0) := by rw [List.getD_eq_getElem?_getD, List.getElem?_eq_getElem g1]; rfl
          rw [hgd] at HW0
          clear hgd hc0 hc1 hc2
          generalize l'.getD k (0, 0) = q at hcell0 hcell1 HW0
          have HW : Aside0 ((Lit.int .i64 q.2).wf = true) := ⟨WalkArith.wf_i64 HW0⟩
          have HM : Aside0 (Go.bits .and .i64 q.2 511 ≠ 1000) := ⟨by obtain ⟨m, hm, m0, m1⟩ := few511 q.2; rw [hm]; omega⟩
          have k1 : (k : Int) < (l'.length : Int) := by omega
          have k2 : (k : Int) < 60 := by omega
          have hw : wrap64 ((k : Int) + 1) = (k : Int) + 1 := wrap_add1 (by omega) (by omega)
          have HX : Aside0 (∃ x, Base (b + 3) x ∧ (Hold fn e0 x) ∧ Ep wr H x) := ⟨s, HBs.out.mono (by omega), HN.out, HE.out⟩
          have HB2 := HBr
          have G2 := Aside0.mk g2
          clear HW0 g1 g2 p1 p2
          go_wp2_with (first
            | (go_at_call 11; refine (publish_v HE.out q.2 HBs.out.ok.ep0 (by have := HBs.out.ok.ep9; have := BB.out; omega) rfl rfl).mono ?_; rintro e w6 ⟨rfl, h1, h2⟩; clear HX HB2; have HX : Aside0 (∃ x, Base (b + 3) x ∧ (Hold fn e0 x) ∧ Ep w6 H x) := ⟨_, HBs.out.pub q.2 HW.out, HN.out.pub HBs.out q.2, h1⟩; have HB2 := Aside0.mk (below_fr HBr.out h2 HH.out); clear h1 h2)
            | (go_at_call 13; refine (enter_v HE.out (Go.bits .and .i64 q.2 511) rfl rfl).mono ?_; rintro e w6 ⟨rfl, h1, h2⟩; clear HX HB2; have HX : Aside0 (∃ x, Base (b + 3) x ∧ (Hold fn e0 x) ∧ Ep w6 H x) := ⟨_, HBs.out.enter _, HN.out.enter HM.out, h1⟩; have HB2 := Aside0.mk (below_fr HBr.out h2 HH.out); clear h1 h2)
            | (go_at_call 15; refine (leave_v HE.out (Go.bits .and .i64 q.2 511) rfl).mono ?_; rintro e w6 ⟨rfl, h1, h2⟩; clear HX HB2; have HX : Aside0 (∃ x, Base (b + 3) x ∧ (Hold fn e0 x) ∧ Ep w6 H x) := ⟨_, HBs.out.leave _, HN.out.leave HM.out, h1⟩; have HB2 := Aside0.mk (below_fr HBr.out h2 HH.out); clear h1 h2)
            | (go_at_call 17; refine (pin_v HE.out (HBs.out.ok.pin0 _) (by have := HBs.out.ok.pin9 s.cur; have := BB.out; omega) rfl rfl rfl).mono ?_; rintro e w6 ⟨rfl, h1, h2⟩; clear HX HB2; have HX : Aside0 (∃ x, Base (b + 3) x ∧ (Hold fn e0 x) ∧ Ep w6 H x) := ⟨_, HBs.out.pin, HN.out.pin HBs.out, h1⟩; have HB2 := Aside0.mk (below_fr HBr.out h2 HH.out); clear h1 h2)
            | (go_at_call 19; refine (unpin_v HE.out q.2 HBs.out.ok.ep0 (by have := HBs.out.ok.ep9; have := BB.out; omega) (HBs.out.ok.pin0 _) (by have := HBs.out.ok.pin9 q.2; have := BB.out; omega) rfl rfl).mono ?_; rintro e w6 ⟨rfl, h1, h2⟩; clear HX HB2; have HX : Aside0 (∃ x, Base (b + 3) x ∧ (Hold fn e0 x) ∧ Ep w6 H x) := ⟨_, HBs.out.unpin q.2, HN.out.unpin HBs.out q.2, h1⟩; have HB2 := Aside0.mk (below_fr HBr.out h2 HH.out); clear h1 h2)
            | (go_at_call 21; refine (reclaim_v HE.out (by have := HBs.out.ok.ret; have := BB.out; omega) rfl rfl rfl).mono ?_; rintro e w6 ⟨A6, c6, rfl, h3, h4, h1, h2⟩; clear HX HB2; have HX : Aside0 (∃ x, Base (b + 3) x ∧ (Hold fn e0 x) ∧ Ep w6 H x) := ⟨_, HBs.out.reclaim, HN.out.reclaim, h1⟩; have HB2 := Aside0.mk (below_fr HBr.out h2 HH.out); clear h1 h2)
            | (go_at_call 27; obtain ⟨x, x1, x2, x3⟩ := HX.out; refine (gone_v x3 fn (x2.gone x1)).mono ?_; rintro e w7 ⟨rfl, rfl⟩; clear x1 x2 x3))
          all_goals go_roundw
          all_goals first
            | (obtain ⟨x, x1, x2, x3⟩ := HX.out; exact ⟨k + 1, b + 3, x, by go_num, ⟨by have := G2.out; omega, by have := BB.out; omega, x1, x2, x3⟩, HB2⟩)
            | exact meas G2.out (by omega)
            | (rw [hw]; exact meas G2.out (by omega))
        · have hcase : (k : Int) < (l'.length : Int) ∧ ¬ (k : Int) < 60 ∨ ¬ (k : Int) < (l'.length : Int) := by omega
          clear hlt p1 p2
          rcases hcase with ⟨e1, e2⟩ | e1
          · go_wp2
            go_roundw
            case rel => exact ⟨b, fn, s, rfl, .inr (.inr ⟨rfl, ⟨HN.out.gone HBs.out, HE.out⟩⟩), HBr⟩
            case measure => decide
          · go_wp2
            go_roundw
            case rel => exact ⟨b, fn, s, rfl, .inr (.inr ⟨rfl, ⟨HN.out.gone HBs.out, HE.out⟩⟩), HBr⟩
            case measure => decide
    · obtain ⟨q1, q2⟩ := HU.out
      have HG := Aside0.mk q1
      have HE := Aside0.mk q2
      clear HU q1 q2
      go_wp2_with (first
        | (go_at_call 27; refine (gone_v HE.out fo HG.out).mono ?_; rintro e w7 ⟨rfl, rfl⟩))
      go_ret
      exact ⟨rfl, HBr.out⟩
end Go.Proofs.Ytfiehglbpcjkfaa.Hand
