/- The statement EpochPins: it returns true. -/
import Derived.Test.YtfiehglbpcjkfaaEpI
import Derived.Test.YtfiehglbpcjkfaaEpOpen
namespace Go.Proofs.Ytfiehglbpcjkfaa.Hand
open Go.Proofs Go Go.MapKept Go.RowKit Go.Proofs.YtfiehglbpcjkfaaW.PrintWords Go.Proofs.YtfiehglbpcjkfaaW.PrintLast Go.Proofs.YtfiehglbpcjkfaaW.PrintMore
set_option linter.unusedVariables false
set_option linter.unusedSectionVars false
set_option linter.unusedSimpArgs false
theorem and16 (n : Int) : Go.bits .and .i64 n 65535 = n % 65536 := by
  have h127 : (BitVec.ofInt 64 65535).toNat = 2 ^ 16 - 1 := by decide
  have key : (BitVec.ofInt 64 n &&& BitVec.ofInt 64 65535).toNat = (n % ((2 ^ 64 : Nat) : Int)).toNat % 2 ^ 16 := by
    rw [BitVec.toNat_and, BitVec.toNat_ofInt, h127, Nat.and_two_pow_sub_one_eq_mod]
  show IntKind.i64.wrap ((BitVec.ofInt 64 n &&& BitVec.ofInt 64 65535).toNat : Nat) = n % 65536
  rw [key, IntKind.wrap_i64]
  omega
/-- A number by its remainder: a + (x & 0xFFFF) % m. -/
theorem pickn (x a m : Int) (h0 : 0 < m) (h1 : m ≤ 100) (h2 : 0 ≤ a) (h3 : a ≤ 100) : ∃ n : Nat, wrap64 (a + (Go.bits .and .i64 x 65535).tmod m) = (n : Int) ∧ a ≤ (n : Int) ∧ (n : Int) < a + m := by
  rw [and16]
  have h4 : 0 ≤ x % 65536 := Int.emod_nonneg _ (by omega)
  rw [Int.tmod_eq_emod_of_nonneg h4]
  have h5 := Int.emod_nonneg (x % 65536) (b := m) (by omega)
  have h6 := Int.emod_lt_of_pos (x % 65536) (b := m) (by omega)
  generalize x % 65536 % m = y at h5 h6 ⊢
  refine ⟨(a + y).toNat, ?_, by omega, by omega⟩
  unfold wrap64
  omega
section
variable {s : St} {r x : Int}
theorem pub_cur (h : 1 ≤ r) : (s.publish r).cur = r := by
  unfold St.publish
  rw [if_neg (by omega)]
  split
  · rename_i e; exact e.symm
  · show (St.retire _ _).cur = r
    rw [retire_cur]
theorem pub_pins : (s.publish r).pins = s.pins := by
  unfold St.publish
  split
  · rfl
  · split
    · rfl
    · show (St.retire _ _).pins = _
      rw [retire_pins]
theorem pub_ins : (s.publish r).ins = s.ins := by
  unfold St.publish
  split
  · rfl
  · split
    · rfl
    · show (St.retire _ _).ins = _
      rw [retire_ins]
theorem pub_ever : lget (s.publish r).ever x = if 1 ≤ r ∧ r ≠ s.cur ∧ x = r then some true else lget s.ever x := by
  unfold St.publish
  by_cases h1 : r < 1
  · rw [if_pos h1, if_neg (by omega)]
  · rw [if_neg h1]
    by_cases h2 : r = s.cur
    · rw [if_pos h2, if_neg (fun h => h.2.1 h2)]
    · rw [if_neg h2]
      show lget (lput (St.retire _ _).ever r true) x = _
      rw [retire_ever, lget_put]
      by_cases h3 : x = r
      · rw [if_pos h3, if_pos ⟨by omega, h2, h3⟩]
      · rw [if_neg h3, if_neg (fun h => h3 h.2.2)]
theorem live_of_pin (h : 0 < nget s.pins x) : s.live x = true := by simp [St.live, h]
theorem live_of_cur (h : x = s.cur) (h0 : 0 < x) : s.live x = true := by simp [St.live, ← h, h0]
theorem live_of_ret (h : (lget s.ret x).isSome = true) : s.live x = true := by simp [St.live, h]
theorem gone_of_live (h : s.live x = true) : s.gone x = false := by simp [St.gone, h]
theorem gone_true (he : lget s.ever x = some true) (hr : lget s.ret x = none) (hp : nget s.pins x = 0) (hc : x ≠ s.cur) : s.gone x = true := by simp [St.gone, St.live, he, hr, hp, hc]
theorem reclaim_none (h : s.ins = []) : s.reclaim.ret = [] := by
  show s.ret.filter (fun p => held s.ins p.2) = []
  rw [h]
  exact List.filter_eq_nil_iff.2 fun p _ => by simp [held]
theorem freed_none (h : s.ins = []) : s.freed = (s.ret.map (·.1)).mergeSort (fun x y => decide (x ≤ y)) := by
  unfold St.freed
  rw [h, List.filter_eq_self.2 (fun p _ => by simp [held])]
end
/-- Between the releases that follow: pinned n times. -/
structure PinSt (n m : Nat) (last : Nat) (b : Nat) (s : St) : Prop where
  cur : s.cur = last
  ins : s.ins = []
  ever : lget s.ever 1 = some true
  ok : Ok b s
  pins : s.pins = if m = 0 then [] else [(1, (m : Int))]
  ret : if m = 0 ∧ last ≠ 1 then ∃ e, s.ret = [(1, e)] else s.ret = []
theorem pin_pub {n m last b : Nat} {s : St} (h : PinSt n m last b s) (hm : 0 < m) (r : Nat) (h2 : 2 ≤ r) (h9 : r ≤ 100) : PinSt n m r (b + 3) (s.publish r).reclaim := by
  refine ⟨pub_cur (by omega), ?_, ?_, (h.ok.publish r (WalkArith.wf_i64 (by omega))).reclaim, ?_, ?_⟩
  · show (s.publish r).ins = []; rw [pub_ins, h.ins]
  · show lget (s.publish r).ever 1 = _
    rw [pub_ever, if_neg (by omega), h.ever]
  · show (s.publish r).pins = _; rw [pub_pins, h.pins]
  · rw [if_neg (by omega)]
    exact reclaim_none (by rw [pub_ins, h.ins])
theorem pin_live {n m last b : Nat} {s : St} (h : PinSt n m last b s) (hm : 0 < m) : s.gone 1 = false := by
  refine gone_of_live (live_of_pin ?_)
  rw [h.pins, if_neg (by omega)]
  show (0 : Int) < m
  omega
theorem pin_dec {n m last b : Nat} {s : St} (h : PinSt n (m + 1) last b s) : PinSt n m last (b + 2) (s.unpin 1) ∧ s.unpinErr 1 = 0 := by
  have hp := h.pins
  rw [if_neg (by omega)] at hp
  have hn : nget s.pins 1 = ((m + 1 : Nat) : Int) := by rw [hp]; rfl
  have hok := h.ok.unpin 1
  have hret := h.ret
  rw [if_neg (by omega)] at hret
  refine ⟨?_, by unfold St.unpinErr; rw [hn, if_neg (by omega)]⟩
  by_cases hm : m = 0
  · subst hm
    have e1 : ldel (lput s.pins 1 (nget s.pins 1 - 1)) 1 = [] := by rw [hn, hp]; rfl
    have hu : s.unpin 1 = if (1 : Int) = s.cur then { s with pins := [] } else St.retire { s with pins := [], ep := s.ep + 1 } 1 := by
      unfold St.unpin
      rw [if_neg (by rw [hn]; omega), if_neg (by rw [hn]; omega), e1]
    by_cases hl : last = 1
    · have hc : (1 : Int) = s.cur := by rw [h.cur, hl]; rfl
      rw [hu, if_pos hc] at hok ⊢
      exact ⟨h.cur, h.ins, h.ever, hok, rfl, by rw [if_neg (by omega)]; exact hret⟩
    · have hc : ¬ (1 : Int) = s.cur := by rw [h.cur]; omega
      rw [hu, if_neg hc] at hok ⊢
      refine ⟨by rw [retire_cur]; exact h.cur, by rw [retire_ins]; exact h.ins, by rw [retire_ever]; exact h.ever, hok, by rw [retire_pins]; rfl, ?_⟩
      rw [if_pos ⟨rfl, hl⟩]
      refine ⟨s.ep + 1, ?_⟩
      unfold St.retire
      rw [if_pos ⟨by omega, rfl⟩]
      show lput s.ret 1 (s.ep + 1) = _
      rw [hret]
      rfl
  · have e1 : lput s.pins 1 (nget s.pins 1 - 1) = [(1, (m : Int))] := by
      rw [hn, hp, show ((m + 1 : Nat) : Int) - 1 = (m : Int) by omega]; rfl
    have hu : s.unpin 1 = { s with pins := [(1, (m : Int))] } := by
      unfold St.unpin
      rw [if_neg (by rw [hn]; omega), if_pos (by rw [hn]; omega), e1]
    rw [hu] at hok ⊢
    exact ⟨h.cur, h.ins, h.ever, hok, by rw [if_neg hm], by rw [if_neg (by omega)]; exact hret⟩
theorem pin_rec {n m last b : Nat} {s : St} (h : PinSt n m last b s) (hm : 0 < m) : PinSt n m last b s.reclaim := by
  refine ⟨h.cur, h.ins, h.ever, h.ok.reclaim, h.pins, ?_⟩
  rw [if_neg (by omega)]
  exact reclaim_none h.ins
theorem pin_late {n last b : Nat} {s : St} (h : PinSt n 0 last b s) : s.unpinErr 1 = 9 ∧ s.unpin 1 = s := by
  have hp := h.pins
  rw [if_pos rfl] at hp
  have hn : nget s.pins 1 = 0 := by rw [hp]; rfl
  exact ⟨by unfold St.unpinErr; rw [if_pos hn], by unfold St.unpin; rw [if_pos hn]⟩
theorem pin_end1 {n b : Nat} {s : St} (h : PinSt n 0 1 b s) : s.freed = [] ∧ s.reclaim.gone 1 = false := by
  have hr := h.ret
  rw [if_neg (by omega)] at hr
  refine ⟨by rw [freed_none h.ins, hr]; simp, gone_of_live (live_of_cur (by rw [show s.reclaim.cur = s.cur from rfl, h.cur]; rfl) (by omega))⟩
theorem pin_end2 {n last b : Nat} {s : St} (h : PinSt n 0 last b s) (hl : last ≠ 1) : s.freed = [1] ∧ s.reclaim.gone 1 = true ∧ s.reclaim.cur = last := by
  have hr := h.ret
  rw [if_pos ⟨rfl, hl⟩] at hr
  obtain ⟨e, hr⟩ := hr
  have hp := h.pins
  rw [if_pos rfl] at hp
  refine ⟨by rw [freed_none h.ins, hr]; simp, gone_true h.ever (by rw [reclaim_none h.ins]; rfl) (by rw [show s.reclaim.pins = s.pins from rfl, hp]; rfl) (by rw [show s.reclaim.cur = s.cur from rfl, h.cur]; omega), h.cur⟩
def pinSt (k : Nat) : St := ⟨1, 1, if k = 0 then [] else [(1, (k : Int))], [], [], [(1, true)]⟩
theorem pinSt_get (k : Nat) : nget (pinSt k).pins 1 = (k : Int) := by
  unfold pinSt
  show nget (if k = 0 then [] else [(1, (k : Int))]) 1 = _
  split
  · rename_i h; rw [h]; rfl
  · rfl
theorem pinSt_pin (k : Nat) : (pinSt k).pin = pinSt (k + 1) := by
  unfold St.pin
  rw [if_neg (by show ¬ (1 : Int) = 0; omega)]
  have h1 := pinSt_get k
  have hc : (pinSt k).cur = 1 := rfl
  rw [hc, h1]
  by_cases h : k = 0
  · subst h; rfl
  · have e : lput (pinSt k).pins 1 ((k : Int) + 1) = (pinSt (k + 1)).pins := by
      show lput (if k = 0 then [] else [(1, (k : Int))]) 1 _ = if k + 1 = 0 then [] else _
      rw [if_neg h, if_neg (by omega)]
      rfl
    rw [e]
    rfl
theorem meas {k n : Nat} (h : k < n) (h2 : n ≤ 100) : 100 - (Go.RowKit.intOf (.int .i64 ((k : Int) + 1))).toNat < 100 - (Go.RowKit.intOf (.int .i64 (k : Int))).toNat := by
  show 100 - ((k : Int) + 1).toNat < 100 - ((k : Int)).toNat
  omega
theorem pinSt_lo (k : Nat) : 0 ≤ nget (pinSt k).pins (pinSt k).cur := by
  rw [show (pinSt k).cur = 1 from rfl, pinSt_get]
  omega
theorem pinSt_hi (k : Nat) (hk : k ≤ 100) : nget (pinSt k).pins (pinSt k).cur ≤ 4611686018427387904 := by
  rw [show (pinSt k).cur = 1 from rfl, pinSt_get]
  omega
theorem pinSt_err (k : Nat) : (pinSt k).pinErr = 0 := by
  unfold St.pinErr
  rw [if_neg (by show ¬ (1 : Int) = 0; omega)]
theorem pinSt_ok (n : Nat) (hn : n ≤ 10) (h0 : 0 < n) : PinSt n n 1 10 (pinSt n) := by
  refine ⟨rfl, rfl, rfl, ⟨by show (0:Int) ≤ 1; omega, by show (1:Int) ≤ _; omega, fun k => ?_, fun k => ?_, by show 0 ≤ _; omega, by show 1 ≤ _; omega, fun p hp => ?_⟩, rfl, by rw [if_neg (by omega)]; rfl⟩
  · by_cases h : k = 1
    · subst h; rw [pinSt_get]; omega
    · have : nget (pinSt n).pins k = 0 := by
        show nget (if n = 0 then [] else [(1, (n : Int))]) k = 0
        rw [if_neg (by omega)]
        unfold nget lget
        rw [List.find?_cons_of_neg (by simpa using fun e => h e.symm)]
        rfl
      rw [this]; omega
  · by_cases h : k = 1
    · subst h; rw [pinSt_get]; omega
    · have : nget (pinSt n).pins k = 0 := by
        show nget (if n = 0 then [] else [(1, (n : Int))]) k = 0
        rw [if_neg (by omega)]
        unfold nget lget
        rw [List.find?_cons_of_neg (by simpa using fun e => h e.symm)]
        rfl
      rw [this]; omega
  · have hp : p ∈ [((1 : Int), true)] := hp
    rw [List.mem_singleton] at hp
    rw [hp]
    exact WalkArith.wf_i64 (by omega)
set_option maxHeartbeats 2000000 in
set_option maxRecDepth 100000 in
theorem pins_walk (n0 : Int) (A : Option Addr) (c : Nat) (l : List Int) (w : World) (_ : (Lit.int .i64 n0).wf = true) (hr : Kd.C (Kd.int .i64) w A l.length l) (hc : l.length ≤ c) (_ : ∀ q ∈ l, wfi q) :
    Calls Try.prog 6 #[.int .i64 n0, .slice A l.length c] w fun e w' => e = .returned (.bool true) ∧ Below w.heap.size w w' := by
  have HR := Aside0.mk hr
  clear hr
  obtain ⟨n, hn, n1, n9⟩ := pickn n0 1 9 (by omega) (by omega) (by omega) (by omega)
  have N1 := Aside0.mk (show 1 ≤ n by omega)
  have N9 := Aside0.mk (show n < 10 by omega)
  clear n1 n9
  go_enter Try.func6, Try.ntmps6
  go_wp2_with (first
    | (go_at_call 9; refine (shown_c _).mono ?_; rintro e w1 ⟨rfl, hb⟩; have HB := Aside0.mk hb; clear hb)
    | (go_at_call 10; refine (new_c _).mono ?_; rintro e w2 ⟨rfl, h1, h2, h3⟩; obtain ⟨H, eH⟩ : ∃ H, H = w1.heap.size := ⟨_, rfl⟩; have HH := Aside0.mk (show w.heap.size ≤ H by rw [eH]; exact HB.out.size); have HBr := Aside0.mk (below_step HB.out h2); rw [← eH] at h1 ⊢; have HE := Aside0.mk h1; clear h1 h2 h3 eH HB)
    | (go_at_call 11; refine (publish_v HE.out 1 (by decide) (by decide) (s' := pinSt 0) rfl (v := 0) rfl).mono ?_; rintro e w3 ⟨rfl, h1, h2⟩; clear HE; have HE := Aside0.mk h1; have HBn := Aside0.mk (below_fr HBr.out h2 HH.out); clear HBr; have HBr := HBn; clear HBn; clear h1 h2))
  clear hn
  go_loopw [7] (fun i wr => ∃ k : Nat, i = .int .i64 (k : Int) ∧ Aside0 (k ≤ n ∧ Ep wr H (pinSt k)) ∧ Aside0 (Below w.heap.size w wr)) (fun i _ => 100 - (Go.RowKit.intOf i).toNat)
  case atStart => exact ⟨0, rfl, ⟨by omega, HE.out⟩, HBr⟩
  case round =>
    clear HE HBr
    obtain ⟨k, rfl, HK, HBr⟩ := hrel
    obtain ⟨q1, q2⟩ := HK.out
    have HE := Aside0.mk q2
    have Q1 := Aside0.mk q1
    clear HK q2
    by_cases hkn : k < n
    · have k1 : (k : Int) < (n : Int) := by omega
      clear q1
      have hw : wrap64 ((k : Int) + 1) = (k : Int) + 1 := by have := N9.out; unfold wrap64; omega
      have HKN := Aside0.mk hkn
      clear hkn
      go_wp2_with (first
        | (go_at_call 17; refine (pin_v HE.out (pinSt_lo k) (pinSt_hi k (by have := N9.out; have := HKN.out; omega)) (c := 1) (v := 0) rfl (pinSt_err k) (pinSt_pin k)).mono ?_; rintro e w4 ⟨rfl, h1, h2⟩; have HE2 := Aside0.mk h1; have HB2 := Aside0.mk (below_fr HBr.out h2 HH.out); clear h1 h2))
      go_roundw
      case rel => exact ⟨k + 1, by go_num, ⟨by have := HKN.out; omega, HE2.out⟩, HB2⟩
      case measure => rw [hw]; exact meas HKN.out (by have := N9.out; omega)
    · have hk2 : k = n := by omega
      subst hk2
      have HP := Aside0.mk (pinSt_ok k (by have := N9.out; omega) N1.out)
      obtain ⟨s0, hs0⟩ : ∃ s0, s0 = pinSt k := ⟨_, rfl⟩
      rw [← hs0] at HP HE
      clear hs0 q1 Q1 hkn
      have k1 : ¬ (k : Int) < (k : Int) := by omega
      have HEa := HE
      have HBa := HBr
      clear HE HBr
      go_wp2
      clear k1
      go_loopw [10, 11] (fun la i wr => ∃ (j last : Nat) (s : St), la = .int .i64 (last : Int) ∧ i = .int .i64 (j : Int) ∧ Aside0 (j ≤ l.length ∧ j ≤ 40 ∧ PinSt k k last (10 + 3 * j) s ∧ Ep wr H s) ∧ Aside0 (Below w.heap.size w wr)) (fun _ i _ => 100 - (Go.RowKit.intOf i).toNat)
      case atStart => exact ⟨0, 1, s0, rfl, rfl, ⟨by omega, by omega, HP.out, HEa.out⟩, HBa⟩
      case round =>
        clear HEa HBa HP
        obtain ⟨j, last, s, rfl, rfl, HJ, HBr⟩ := hrel
        obtain ⟨p1, p2, p3, p4⟩ := HJ.out
        have HP := Aside0.mk p3
        have HE := Aside0.mk p4
        clear HJ p3 p4
        by_cases hjl : j < l.length ∧ j < 40
        · obtain ⟨g1, g2⟩ := hjl
          obtain ⟨ad, rfl, hcell0⟩ := Ci_at HR.out j g1
          have hcell : wr.cell? (ad.add j) = some (.int .i64 (l.getD j 0)) := (HBr.out.cell (p := ad.add j) (lt_of_cell hcell0)).trans hcell0
          clear hcell0
          generalize l.getD j 0 = x at hcell
          obtain ⟨r, hr0, r1, r2⟩ := pickn x 2 19 (by omega) (by omega) (by omega) (by omega)
          have R1 := Aside0.mk (show 2 ≤ r by omega)
          have R2 := Aside0.mk (show r ≤ 100 by omega)
          have k1 : (j : Int) < (l.length : Int) := by omega
          have k2 : (j : Int) < 40 := by omega
          have G1 := Aside0.mk g1
          have G2 := Aside0.mk g2
          have hw : wrap64 ((j : Int) + 1) = (j : Int) + 1 := wrap_add1 (by omega) (by omega)
          have HPP := Aside0.mk (pin_pub HP.out N1.out r R1.out R2.out)
          have HO := Aside0.mk (HP.out.ok.publish (r : Int) (WalkArith.wf_i64 (by have := R2.out; omega)))
          have hpe : pubErr (r : Int) = 0 := by unfold pubErr; rw [if_neg (by omega)]
          clear r1 r2 g1 g2 p1 p2
          go_wp2_with (first
            | (go_at_call 11; refine (publish_v HE.out (r : Int) HP.out.ok.ep0 (by have := HP.out.ok.ep9; have := G2.out; omega) rfl hpe).mono ?_; rintro e w3 ⟨rfl, h1, h2⟩; have HE2 := Aside0.mk h1; have HB2 := Aside0.mk (below_fr HBr.out h2 HH.out); clear h1 h2)
            | (go_at_call 21; refine (reclaim_v HE2.out (by have := HO.out.ret; have := G2.out; omega) rfl rfl rfl).mono ?_; rintro e w4 ⟨A4, c4, rfl, h3, h4, h1, h2⟩; have HE3 := Aside0.mk h1; have HB3 := Aside0.mk (below_fr HB2.out h2 HH.out); clear h1 h2 h3 h4)
            | (go_at_call 27; refine (gone_v HE3.out 1 (pin_live HPP.out N1.out)).mono ?_; rintro e w5 ⟨rfl, rfl⟩))
          go_roundw
          case rel => exact ⟨j + 1, r, _, rfl, by go_num, ⟨by have := G1.out; omega, by have := G2.out; omega, HPP.out, HE3.out⟩, HB3⟩
          case measure => first | exact meas G2.out (by omega) | (rw [hw]; exact meas G2.out (by omega))
        · have hcase : (j : Int) < (l.length : Int) ∧ ¬ (j : Int) < 40 ∨ ¬ (j : Int) < (l.length : Int) := by omega
          clear hjl p1
          have P2 := Aside0.mk p2
          clear p2
          rcases hcase with ⟨e1, e2⟩ | e1
          · go_wp2
            clear e1 e2
            go_loopw [12] (fun i wr => ∃ (m b : Nat) (t : St), i = .int .i64 (m : Int) ∧ Aside0 (m ≤ k ∧ b ≤ 200 + 2 * m ∧ PinSt k (k - m) last b t ∧ Ep wr H t) ∧ Aside0 (Below w.heap.size w wr)) (fun i _ => 100 - (Go.RowKit.intOf i).toNat)
            case atStart => exact ⟨0, _, s, rfl, ⟨by omega, by have := P2.out; omega, HP.out, HE.out⟩, HBr⟩
            case round =>
              clear HE HBr HP P2
              obtain ⟨m, b, t, rfl, HM, HBr⟩ := hrel
              obtain ⟨p1, p2, p3, p4⟩ := HM.out
              have HE := Aside0.mk p4
              have B9 := Aside0.mk (show b ≤ 300 by have := N9.out; omega)
              by_cases hmk : m < k
              · have k1 : (m : Int) < (k : Int) := by omega
                have hw : wrap64 ((m : Int) + 1) = (m : Int) + 1 := wrap_add1 (by omega) (by have := N9.out; omega)
                have e1 : k - m = (k - (m + 1)) + 1 := by omega
                rw [e1] at p3
                have HP := Aside0.mk p3
                have HMK := Aside0.mk hmk
                have HBb := Aside0.mk (show b + 2 ≤ 200 + 2 * (m + 1) by omega)
                clear HM p1 p2 p3 p4 hmk e1
                obtain ⟨d1, d2⟩ := pin_dec HP.out
                have HD := Aside0.mk d1
                have HD2 := Aside0.mk d2
                clear d1 d2
                by_cases hm2 : m + 1 < k
                · have k2 : (m : Int) + 1 < (k : Int) := by omega
                  have HR2 := Aside0.mk (pin_rec HD.out (by omega))
                  clear hm2
                  go_wp2_with (first
                    | (go_at_call 27; refine (gone_v HE.out 1 (pin_live HP.out (by omega))).mono ?_; rintro e w5 ⟨rfl, rfl⟩)
                    | (go_at_call 19; refine (unpin_v HE.out 1 HP.out.ok.ep0 (by have := HP.out.ok.ep9; have := B9.out; omega) (HP.out.ok.pin0 1) (by have := HP.out.ok.pin9 1; have := B9.out; omega) HD2.out rfl).mono ?_; rintro e w6 ⟨rfl, h1, h2⟩; have HE2 := Aside0.mk h1; have HB2 := Aside0.mk (below_fr HBr.out h2 HH.out); clear h1 h2)
                    | (go_at_call 21; refine (reclaim_v HE2.out (by have := HD.out.ok.ret; have := B9.out; omega) rfl rfl rfl).mono ?_; rintro e w7 ⟨A4, c4, rfl, h3, h4, h1, h2⟩; have HE3 := Aside0.mk h1; have HB3 := Aside0.mk (below_fr HB2.out h2 HH.out); clear h1 h2 h3 h4))
                  go_roundw
                  case rel => exact ⟨m + 1, _, _, by go_num, ⟨HMK.out, HBb.out, HR2.out, HE3.out⟩, HB3⟩
                  case measure => first | exact meas HMK.out (by have := N9.out; omega) | (rw [hw]; exact meas HMK.out (by have := N9.out; omega))
                · have k2 : ¬ (m : Int) + 1 < (k : Int) := by omega
                  clear hm2
                  go_wp2_with (first
                    | (go_at_call 27; refine (gone_v HE.out 1 (pin_live HP.out (by omega))).mono ?_; rintro e w5 ⟨rfl, rfl⟩)
                    | (go_at_call 19; refine (unpin_v HE.out 1 HP.out.ok.ep0 (by have := HP.out.ok.ep9; have := B9.out; omega) (HP.out.ok.pin0 1) (by have := HP.out.ok.pin9 1; have := B9.out; omega) HD2.out rfl).mono ?_; rintro e w6 ⟨rfl, h1, h2⟩; have HE2 := Aside0.mk h1; have HB2 := Aside0.mk (below_fr HBr.out h2 HH.out); clear h1 h2))
                  go_roundw
                  case rel => exact ⟨m + 1, _, _, by go_num, ⟨HMK.out, HBb.out, HD.out, HE2.out⟩, HB2⟩
                  case measure => first | exact meas HMK.out (by have := N9.out; omega) | (rw [hw]; exact meas HMK.out (by have := N9.out; omega))
              · have e1 : k - m = 0 := by omega
                rw [e1] at p3
                have HP := Aside0.mk p3
                have k1 : ¬ (m : Int) < (k : Int) := by omega
                clear HM p1 p2 p3 p4 hmk e1
                obtain ⟨d1, d2⟩ := pin_late HP.out
                have HD := Aside0.mk d1
                have HD2 := Aside0.mk d2
                clear d1 d2
                by_cases hl : last = 1
                · subst hl
                  obtain ⟨d1, d2⟩ := pin_end1 HP.out
                  have HF := Aside0.mk d1
                  have HG := Aside0.mk d2
                  clear d1 d2
                  go_wp2_with (first
                    | (go_at_call 19; refine (unpin_v HE.out 1 HP.out.ok.ep0 (by have := HP.out.ok.ep9; have := B9.out; omega) (HP.out.ok.pin0 1) (by have := HP.out.ok.pin9 1; have := B9.out; omega) HD.out HD2.out).mono ?_; rintro e w6 ⟨rfl, h1, h2⟩; have HE2 := Aside0.mk h1; have HB2 := Aside0.mk (below_fr HBr.out h2 HH.out); clear h1 h2)
                    | (go_at_call 21; refine (reclaim_v HE2.out (by have := HP.out.ok.ret; have := B9.out; omega) HF.out rfl rfl).mono ?_; rintro e w7 ⟨A4, c4, rfl, h3, h4, h1, h2⟩; have HE3 := Aside0.mk h1; have HB3 := Aside0.mk (below_fr HB2.out h2 HH.out); clear h1 h2 h3 h4)
                    | (go_at_call 27; refine (gone_v HE3.out 1 HG.out).mono ?_; rintro e w5 ⟨rfl, rfl⟩))
                  go_ret
                  exact ⟨rfl, HB3.out⟩
                · obtain ⟨d1, d2, d3⟩ := pin_end2 HP.out hl
                  have HF := Aside0.mk d1
                  have HG := Aside0.mk d2
                  have HC := Aside0.mk d3
                  clear d1 d2 d3
                  have hl2 : ((last : Int) == 1) = false := beq_eq_false_iff_ne.2 (by omega)
                  clear hl
                  go_wp2_with (first
                    | (go_at_call 19; refine (unpin_v HE.out 1 HP.out.ok.ep0 (by have := HP.out.ok.ep9; have := B9.out; omega) (HP.out.ok.pin0 1) (by have := HP.out.ok.pin9 1; have := B9.out; omega) HD.out HD2.out).mono ?_; rintro e w6 ⟨rfl, h1, h2⟩; have HE2 := Aside0.mk h1; have HB2 := Aside0.mk (below_fr HBr.out h2 HH.out); clear h1 h2)
                    | (go_at_call 21; refine (reclaim_v HE2.out (by have := HP.out.ok.ret; have := B9.out; omega) HF.out rfl rfl).mono ?_; rintro e w7 ⟨A4, c4, rfl, h3, h4, h1, h2⟩; obtain ⟨ad4, rfl, hc4, _⟩ := C_one h4; have HE3 := Aside0.mk h1; have HB3 := Aside0.mk (below_fr HB2.out h2 HH.out); clear h1 h2 h3 h4)
                    | (go_at_call 27; refine (gone_v HE3.out 1 HG.out).mono ?_; rintro e w5 ⟨rfl, rfl⟩)
                    | (go_at_call 24; refine (current_v HE3.out HC.out).mono ?_; rintro e w5 ⟨rfl, rfl⟩))
                  go_ret
                  exact ⟨rfl, HB3.out⟩
          · go_wp2
            clear e1
            go_loopw [12] (fun i wr => ∃ (m b : Nat) (t : St), i = .int .i64 (m : Int) ∧ Aside0 (m ≤ k ∧ b ≤ 200 + 2 * m ∧ PinSt k (k - m) last b t ∧ Ep wr H t) ∧ Aside0 (Below w.heap.size w wr)) (fun i _ => 100 - (Go.RowKit.intOf i).toNat)
            case atStart => exact ⟨0, _, s, rfl, ⟨by omega, by have := P2.out; omega, HP.out, HE.out⟩, HBr⟩
            case round =>
              clear HE HBr HP P2
              obtain ⟨m, b, t, rfl, HM, HBr⟩ := hrel
              obtain ⟨p1, p2, p3, p4⟩ := HM.out
              have HE := Aside0.mk p4
              have B9 := Aside0.mk (show b ≤ 300 by have := N9.out; omega)
              by_cases hmk : m < k
              · have k1 : (m : Int) < (k : Int) := by omega
                have hw : wrap64 ((m : Int) + 1) = (m : Int) + 1 := wrap_add1 (by omega) (by have := N9.out; omega)
                have e1 : k - m = (k - (m + 1)) + 1 := by omega
                rw [e1] at p3
                have HP := Aside0.mk p3
                have HMK := Aside0.mk hmk
                have HBb := Aside0.mk (show b + 2 ≤ 200 + 2 * (m + 1) by omega)
                clear HM p1 p2 p3 p4 hmk e1
                obtain ⟨d1, d2⟩ := pin_dec HP.out
                have HD := Aside0.mk d1
                have HD2 := Aside0.mk d2
                clear d1 d2
                by_cases hm2 : m + 1 < k
                · have k2 : (m : Int) + 1 < (k : Int) := by omega
                  have HR2 := Aside0.mk (pin_rec HD.out (by omega))
                  clear hm2
                  go_wp2_with (first
                    | (go_at_call 27; refine (gone_v HE.out 1 (pin_live HP.out (by omega))).mono ?_; rintro e w5 ⟨rfl, rfl⟩)
                    | (go_at_call 19; refine (unpin_v HE.out 1 HP.out.ok.ep0 (by have := HP.out.ok.ep9; have := B9.out; omega) (HP.out.ok.pin0 1) (by have := HP.out.ok.pin9 1; have := B9.out; omega) HD2.out rfl).mono ?_; rintro e w6 ⟨rfl, h1, h2⟩; have HE2 := Aside0.mk h1; have HB2 := Aside0.mk (below_fr HBr.out h2 HH.out); clear h1 h2)
                    | (go_at_call 21; refine (reclaim_v HE2.out (by have := HD.out.ok.ret; have := B9.out; omega) rfl rfl rfl).mono ?_; rintro e w7 ⟨A4, c4, rfl, h3, h4, h1, h2⟩; have HE3 := Aside0.mk h1; have HB3 := Aside0.mk (below_fr HB2.out h2 HH.out); clear h1 h2 h3 h4))
                  go_roundw
                  case rel => exact ⟨m + 1, _, _, by go_num, ⟨HMK.out, HBb.out, HR2.out, HE3.out⟩, HB3⟩
                  case measure => first | exact meas HMK.out (by have := N9.out; omega) | (rw [hw]; exact meas HMK.out (by have := N9.out; omega))
                · have k2 : ¬ (m : Int) + 1 < (k : Int) := by omega
                  clear hm2
                  go_wp2_with (first
                    | (go_at_call 27; refine (gone_v HE.out 1 (pin_live HP.out (by omega))).mono ?_; rintro e w5 ⟨rfl, rfl⟩)
                    | (go_at_call 19; refine (unpin_v HE.out 1 HP.out.ok.ep0 (by have := HP.out.ok.ep9; have := B9.out; omega) (HP.out.ok.pin0 1) (by have := HP.out.ok.pin9 1; have := B9.out; omega) HD2.out rfl).mono ?_; rintro e w6 ⟨rfl, h1, h2⟩; have HE2 := Aside0.mk h1; have HB2 := Aside0.mk (below_fr HBr.out h2 HH.out); clear h1 h2))
                  go_roundw
                  case rel => exact ⟨m + 1, _, _, by go_num, ⟨HMK.out, HBb.out, HD.out, HE2.out⟩, HB2⟩
                  case measure => first | exact meas HMK.out (by have := N9.out; omega) | (rw [hw]; exact meas HMK.out (by have := N9.out; omega))
              · have e1 : k - m = 0 := by omega
                rw [e1] at p3
                have HP := Aside0.mk p3
                have k1 : ¬ (m : Int) < (k : Int) := by omega
                clear HM p1 p2 p3 p4 hmk e1
                obtain ⟨d1, d2⟩ := pin_late HP.out
                have HD := Aside0.mk d1
                have HD2 := Aside0.mk d2
                clear d1 d2
                by_cases hl : last = 1
                · subst hl
                  obtain ⟨d1, d2⟩ := pin_end1 HP.out
                  have HF := Aside0.mk d1
                  have HG := Aside0.mk d2
                  clear d1 d2
                  go_wp2_with (first
                    | (go_at_call 19; refine (unpin_v HE.out 1 HP.out.ok.ep0 (by have := HP.out.ok.ep9; have := B9.out; omega) (HP.out.ok.pin0 1) (by have := HP.out.ok.pin9 1; have := B9.out; omega) HD.out HD2.out).mono ?_; rintro e w6 ⟨rfl, h1, h2⟩; have HE2 := Aside0.mk h1; have HB2 := Aside0.mk (below_fr HBr.out h2 HH.out); clear h1 h2)
                    | (go_at_call 21; refine (reclaim_v HE2.out (by have := HP.out.ok.ret; have := B9.out; omega) HF.out rfl rfl).mono ?_; rintro e w7 ⟨A4, c4, rfl, h3, h4, h1, h2⟩; have HE3 := Aside0.mk h1; have HB3 := Aside0.mk (below_fr HB2.out h2 HH.out); clear h1 h2 h3 h4)
                    | (go_at_call 27; refine (gone_v HE3.out 1 HG.out).mono ?_; rintro e w5 ⟨rfl, rfl⟩))
                  go_ret
                  exact ⟨rfl, HB3.out⟩
                · obtain ⟨d1, d2, d3⟩ := pin_end2 HP.out hl
                  have HF := Aside0.mk d1
                  have HG := Aside0.mk d2
                  have HC := Aside0.mk d3
                  clear d1 d2 d3
                  have hl2 : ((last : Int) == 1) = false := beq_eq_false_iff_ne.2 (by omega)
                  clear hl
                  go_wp2_with (first
                    | (go_at_call 19; refine (unpin_v HE.out 1 HP.out.ok.ep0 (by have := HP.out.ok.ep9; have := B9.out; omega) (HP.out.ok.pin0 1) (by have := HP.out.ok.pin9 1; have := B9.out; omega) HD.out HD2.out).mono ?_; rintro e w6 ⟨rfl, h1, h2⟩; have HE2 := Aside0.mk h1; have HB2 := Aside0.mk (below_fr HBr.out h2 HH.out); clear h1 h2)
                    | (go_at_call 21; refine (reclaim_v HE2.out (by have := HP.out.ok.ret; have := B9.out; omega) HF.out rfl rfl).mono ?_; rintro e w7 ⟨A4, c4, rfl, h3, h4, h1, h2⟩; obtain ⟨ad4, rfl, hc4, _⟩ := C_one h4; have HE3 := Aside0.mk h1; have HB3 := Aside0.mk (below_fr HB2.out h2 HH.out); clear h1 h2 h3 h4)
                    | (go_at_call 27; refine (gone_v HE3.out 1 HG.out).mono ?_; rintro e w5 ⟨rfl, rfl⟩)
                    | (go_at_call 24; refine (current_v HE3.out HC.out).mono ?_; rintro e w5 ⟨rfl, rfl⟩))
                  go_ret
                  exact ⟨rfl, HB3.out⟩
end Go.Proofs.Ytfiehglbpcjkfaa.Hand
