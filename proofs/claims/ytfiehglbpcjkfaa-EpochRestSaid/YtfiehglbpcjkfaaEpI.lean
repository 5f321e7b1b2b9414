/- The statement EpochInside: it returns true. -/
import Derived.Test.YtfiehglbpcjkfaaEpP
import Derived.Test.YtfiehglbpcjkfaaEpS
namespace Go.Proofs.Ytfiehglbpcjkfaa.Hand
open Go.Proofs Go Go.MapKept Go.RowKit Go.Proofs.YtfiehglbpcjkfaaW.PrintWords Go.Proofs.YtfiehglbpcjkfaaW.PrintLast Go.Proofs.YtfiehglbpcjkfaaW.PrintMore
set_option linter.unusedSectionVars false
set_option linter.unusedVariables false
set_option linter.unusedSimpArgs false
/-- Releases from a on, b of them, each retired in its successor's epoch. -/
def rets (a b : Nat) : List (Int × Int) := (List.range' a b).map fun k : Nat => ((k : Int), (k : Int) + 1)
def evers (b : Nat) : List (Int × Bool) := (List.range' 1 b).map fun k : Nat => ((k : Int), true)
def inSt (k f : Nat) (ins : List (Int × Int)) : St := ⟨k, k, [], if f = 0 then [] else rets f (k - f), ins, evers k⟩
/-- Who is inside, k releases on; f: the first one that anyone has come at. -/
structure InOk (k f : Nat) (ins : List (Int × Int)) : Prop where
  keys : ∀ p ∈ ins, p.1 < k
  low : ∀ p ∈ ins, (f : Int) ≤ p.2
  none : f = 0 → ins = []
  some : f ≠ 0 → ∃ p ∈ ins, p.2 = f
  le : f ≤ k
theorem rets_keys (a b : Nat) (x : Int) : x ∈ (rets a b).map (·.1) ↔ (a : Int) ≤ x ∧ x < (a + b : Nat) := by
  unfold rets
  rw [List.map_map, List.mem_map]
  constructor
  · rintro ⟨k, hk, rfl⟩
    rw [List.mem_range'_1] at hk
    simp
    omega
  · intro h
    exact ⟨x.toNat, by rw [List.mem_range'_1]; omega, by simp; omega⟩
theorem lput_new {l : List (Int × Int)} {k v : Int} (h : k ∉ l.map (·.1)) : lput l k v = l ++ [(k, v)] := by
  unfold lput
  rw [if_neg (fun e => h (lget_isSome.1 e))]
theorem lput_newB {l : List (Int × Bool)} {k : Int} {v : Bool} (h : k ∉ l.map (·.1)) : lput l k v = l ++ [(k, v)] := by
  unfold lput
  rw [if_neg (fun e => h (lget_isSome.1 e))]
theorem ldel_none {l : List (Int × Int)} {k : Int} (h : k ∉ l.map (·.1)) : ldel l k = l :=
  List.filter_eq_self.2 fun p hp => by simpa using fun e => h (List.mem_map.2 ⟨p, hp, e⟩)
theorem evers_keys (b : Nat) (x : Int) : x ∈ (evers b).map (·.1) ↔ 1 ≤ x ∧ x ≤ b := by
  unfold evers
  rw [List.map_map, List.mem_map]
  constructor
  · rintro ⟨k, hk, rfl⟩
    rw [List.mem_range'_1] at hk
    simp
    omega
  · intro h
    exact ⟨x.toNat, by rw [List.mem_range'_1]; omega, by simp; omega⟩
theorem evers_succ (b : Nat) : lput (evers b) ((b + 1 : Nat) : Int) true = evers (b + 1) := by
  rw [lput_newB (by rw [evers_keys]; omega)]
  unfold evers
  rw [show b + 1 = b + 1 from rfl, List.range'_concat, List.map_append]
  simp
  omega
theorem rets_succ (a b : Nat) : lput (rets a b) ((a + b : Nat) : Int) ((a + b : Nat) + 1 : Int) = rets a (b + 1) := by
  rw [lput_new (by rw [rets_keys]; omega)]
  unfold rets
  rw [List.range'_concat, List.map_append]
  simp
/-- Behind Publish of the next one. -/
def inPub (k f : Nat) (ins : List (Int × Int)) : St := ⟨(k + 1 : Nat), (k + 1 : Nat), [], if k = 0 then [] else if f = 0 then rets k 1 else rets f (k + 1 - f), ins, evers (k + 1)⟩
theorem in_pub (k f : Nat) (ins : List (Int × Int)) (hf : f ≤ k) : (inSt k f ins).publish ((k + 1 : Nat) : Int) = inPub k f ins := by
  unfold St.publish
  rw [if_neg (by omega), if_neg (by show ¬ ((k + 1 : Nat) : Int) = (k : Int); omega)]
  unfold St.retire St.pub1 inSt inPub
  by_cases hk : k = 0
  · subst hk
    have : f = 0 := by omega
    subst this
    simp [nget, lget, ldel]
    exact evers_succ 0
  · by_cases h0 : f = 0
    · subst h0
      rw [if_neg hk, if_pos rfl, if_pos rfl, if_pos ⟨by show (0:Int) < (k : Int); omega, rfl⟩]
      simp only [St.mk.injEq, true_and]
      refine ⟨by omega, ?_, evers_succ k⟩
      rw [lput_new (by simp), List.nil_append]
      unfold rets
      rw [ldel_none (by simp; omega)]
      rfl
    · rw [if_neg hk, if_neg h0, if_neg h0, if_pos ⟨by show (0:Int) < (k : Int); omega, rfl⟩]
      simp only [St.mk.injEq, true_and]
      refine ⟨by omega, ?_, evers_succ k⟩
      have e1 : f + (k - f) = k := by omega
      have h2 := rets_succ f (k - f)
      rw [e1] at h2
      rw [h2, ldel_none (by rw [rets_keys]; omega), show k + 1 - f = k - f + 1 by omega]
theorem in_pub' (k f : Nat) (ins : List (Int × Int)) (hf : f ≤ k) : (inSt k f ins).publish ((k : Int) + 1) = inPub k f ins := by
  have := in_pub k f ins hf
  rwa [Int.natCast_succ] at this
theorem in_ok (k f : Nat) (ins : List (Int × Int)) (hk : k ≤ 40) (hf : f ≤ k) : Ok 100 (inSt k f ins) := by
  refine ⟨?_, ?_, fun x => ?_, fun x => ?_, ?_, ?_, fun p hp => ?_⟩
  · show (0 : Int) ≤ (k : Int); omega
  · show (k : Int) ≤ _; omega
  · show 0 ≤ nget [] x; rw [nget_nil]; omega
  · show nget [] x ≤ _; rw [nget_nil]; omega
  · show (if f = 0 then [] else rets f (k - f)).length ≤ _
    split <;> simp [rets]
    omega
  · show (evers k).length ≤ _
    simp [evers]; omega
  · have h1 : p.1 ∈ (evers k).map (·.1) := List.mem_map.2 ⟨p, hp, rfl⟩
    rw [evers_keys] at h1
    exact WalkArith.wf_i64 (by omega)
theorem in_enter {k f : Nat} {ins : List (Int × Int)} (h : InOk k f ins) : (inPub k f ins).enter (k : Int) = inPub k f (ins ++ [((k : Int), ((k + 1 : Nat) : Int))]) := by
  have hn : (k : Int) ∉ ins.map (·.1) := fun e => by
    obtain ⟨p, hp, e2⟩ := List.mem_map.1 e
    have := h.keys p hp
    omega
  unfold St.enter
  rw [if_neg (show ¬ (lget (inPub k f ins).ins (k : Int)).isSome = true from fun e => hn (lget_isSome.1 e))]
  have e1 : lput (inPub k f ins).ins (k : Int) (inPub k f ins).ep = ins ++ [((k : Int), ((k + 1 : Nat) : Int))] := lput_new hn
  rw [e1]
  rfl
theorem InOk.stay {k f : Nat} {ins : List (Int × Int)} (h : InOk k f ins) : InOk (k + 1) f ins := ⟨fun p hp => by have := h.keys p hp; omega, h.low, h.none, h.some, by have := h.le; omega⟩
theorem InOk.come {k f : Nat} {ins : List (Int × Int)} (h : InOk k f ins) : InOk (k + 1) (if f = 0 then k + 1 else f) (ins ++ [((k : Int), ((k + 1 : Nat) : Int))]) := by
  have hle := h.le
  refine ⟨fun p hp => ?_, fun p hp => ?_, fun e => ?_, fun e => ?_, ?_⟩
  · rcases List.mem_append.1 hp with h1 | h1
    · have := h.keys p h1; omega
    · simp at h1; rw [h1]; simp; omega
  · rcases List.mem_append.1 hp with h1 | h1
    · by_cases h0 : f = 0
      · rw [h.none h0] at h1; simp at h1
      · rw [if_neg h0]; exact h.low p h1
    · simp at h1; rw [h1]; split <;> simp <;> omega
  · split at e <;> omega
  · by_cases h0 : f = 0
    · exact ⟨_, List.mem_append_right _ (List.mem_singleton.2 rfl), by rw [if_pos h0]⟩
    · obtain ⟨p, hp, e2⟩ := h.some h0
      exact ⟨p, List.mem_append_left _ hp, by rw [if_neg h0]; exact e2⟩
  · split <;> omega
theorem in_reclaim {k f f' : Nat} {ins : List (Int × Int)} (h : InOk (k + 1) f' ins) (hle : f ≤ k) (hf : f' = f ∨ (f = 0 ∧ f' = k + 1)) : (inPub k f ins).reclaim = inSt (k + 1) f' ins := by
  unfold St.reclaim inSt inPub
  simp only [St.mk.injEq, true_and, and_true]
  by_cases h0 : f' = 0
  · rw [if_pos h0, h.none h0]
    exact List.filter_eq_nil_iff.2 fun p _ => by simp [held]
  · rw [if_neg h0]
    rcases hf with e | ⟨e, e'⟩
    · subst e
      rw [if_neg (by omega), if_neg h0]
      refine List.filter_eq_self.2 fun p hp => ?_
      unfold rets at hp
      obtain ⟨j, hj, rfl⟩ := List.mem_map.1 hp
      rw [List.mem_range'_1] at hj
      obtain ⟨q, hq, e2⟩ := h.some h0
      exact List.any_eq_true.2 ⟨q, hq, by simp [e2]; omega⟩
    · subst e e'
      rw [show rets (k + 1) (k + 1 - (k + 1)) = [] by simp [rets]]
      refine List.filter_eq_nil_iff.2 fun p hp => ?_
      have hp2 : p.2 = (k : Int) + 1 := by
        by_cases hk : k = 0
        · rw [if_pos hk] at hp; simp at hp
        · rw [if_neg hk, if_pos rfl] at hp
          unfold rets at hp
          simp at hp
          rw [hp]
      simp only [held, List.any_eq_true, not_exists, not_and, decide_eq_true_eq]
      intro q hq
      have := h.low q hq
      omega
theorem filter_range (low n : Nat) (h1 : 1 ≤ low) (h2 : low ≤ n + 1) : (List.range' 1 n).filter (fun k => decide (low ≤ k)) = List.range' low (n + 1 - low) := by
  have e : List.range' 1 n = List.range' 1 (low - 1) ++ List.range' low (n + 1 - low) := by
    have := @List.range'_append_1 1 (low - 1) (n + 1 - low)
    rw [show 1 + (low - 1) = low by omega, show low - 1 + (n + 1 - low) = n by omega] at this
    exact this.symm
  rw [e, List.filter_append, List.filter_eq_nil_iff.2 (fun k hk => by rw [List.mem_range'_1] at hk; simp; omega), List.nil_append]
  exact List.filter_eq_self.2 fun k hk => by rw [List.mem_range'_1] at hk; simp; omega
theorem sorted_range (a b : Nat) : ((List.range' a b).map fun k : Nat => (k : Int)).mergeSort (fun x y => decide (x ≤ y)) = (List.range' a b).map fun k : Nat => (k : Int) := by
  refine List.mergeSort_of_pairwise ?_
  rw [List.pairwise_map]
  exact (List.pairwise_lt_range' (s := a) (n := b) (step := 1)).imp fun {x y} h => by simp; omega
theorem in_lives {n f : Nat} {ins : List (Int × Int)} (hn : 1 ≤ n) (hf : f ≤ n) : (inSt n f ins).lives = (List.range' (if f = 0 then n else f) (n + 1 - (if f = 0 then n else f))).map fun k : Nat => (k : Int) := by
  unfold St.lives
  have e1 : (inSt n f ins).ever.map (·.1) = (List.range' 1 n).map fun k : Nat => (k : Int) := by
    show (evers n).map _ = _
    unfold evers
    rw [List.map_map]
    rfl
  rw [e1, sorted_range, List.filter_map]
  rw [← filter_range (if f = 0 then n else f) n (by split <;> omega) (by split <;> omega)]
  congr 1
  refine List.filter_congr fun k hk => ?_
  rw [List.mem_range'_1] at hk
  show St.live (inSt n f ins) (k : Int) = _
  unfold St.live
  have hp : nget (inSt n f ins).pins (k : Int) = 0 := rfl
  rw [hp]
  have hc : (inSt n f ins).cur = (n : Int) := rfl
  rw [hc]
  have hr : (lget (inSt n f ins).ret (k : Int)).isSome = decide (f ≠ 0 ∧ f ≤ k ∧ k < n) := by
    rw [Bool.eq_iff_iff, lget_isSome, decide_eq_true_eq]
    show _ ∈ (if f = 0 then [] else rets f (n - f)).map _ ↔ _
    by_cases h0 : f = 0
    · rw [if_pos h0]; simp; omega
    · rw [if_neg h0, rets_keys]; omega
  rw [hr, Bool.eq_iff_iff]
  simp only [Bool.or_eq_true, Bool.and_eq_true, decide_eq_true_eq]
  split <;> omega
theorem Cb_at {w : World} {A : Option Addr} {n : Nat} {l : List Bool} (h : Kd.C Kd.bool w A n l) (k : Nat) (hk : k < n) : ∃ ad, A = some ad ∧ w.cell? (ad.add k) = some (.bool (l.getD k false)) := by
  obtain ⟨ad, c, e, hs, hr, hc⟩ := ReadsRow.get_ h false (k : Int) (by omega) (by omega)
  have hr : c = [.bool (l.getD k false)] := hr
  subst hr
  have h1 := hc 0 _ rfl
  refine ⟨ad, e, ?_⟩
  have e2 : ((k : Int).toNat * Kd.bool.sz + 0) = k := by show (k : Int).toNat * 1 + 0 = k; omega
  rw [e2] at h1
  exact h1
theorem Ci_at {w : World} {A : Option Addr} {n : Nat} {l : List Int} (h : Kd.C (Kd.int .i64) w A n l) (k : Nat) (hk : k < n) : ∃ ad, A = some ad ∧ w.cell? (ad.add k) = some (.int .i64 (l.getD k 0)) := by
  obtain ⟨ad, c, e, hs, hr, hc⟩ := ReadsRow.get_ h 0 (k : Int) (by omega) (by omega)
  have hr : c = [.int .i64 (l.getD k 0)] := hr
  subst hr
  have h1 := hc 0 _ rfl
  refine ⟨ad, e, ?_⟩
  have e2 : ((k : Int).toNat * (Kd.int .i64).sz + 0) = k := by show (k : Int).toNat * 1 + 0 = k; omega
  rw [e2] at h1
  exact h1
theorem C_head {w : World} {A : Option Addr} {n : Nat} {l : List Int} (h : Kd.C (Kd.int .i64) w A n l) (hn : 0 < n) : ∃ ad, A = some ad ∧ w.cell? ad = some (.int .i64 (l.getD 0 0)) := by
  obtain ⟨ad, e, hc⟩ := Ci_at h 0 hn
  refine ⟨ad, e, ?_⟩
  cases ad
  simpa [Addr.add] using hc
theorem lt_of_cell {w : World} {a : Addr} {v : Value} (h : w.cell? a = some v) : a.block < w.heap.size := by
  unfold World.cell? at h
  split at h
  · rename_i hb
    exact (Array.getElem?_eq_some_iff.1 hb).1
  · cases h
set_option maxHeartbeats 1000000 in
set_option maxRecDepth 100000 in
theorem inside_walk (A : Option Addr) (c : Nat) (l : List Bool) (w : World) (hr : Kd.C Kd.bool w A l.length l) (hc : l.length ≤ c) :
    Calls Try.prog 8 #[.slice A l.length c] w fun e w' => e = .returned (.bool true) ∧ Below w.heap.size w w' := by
  have HR := Aside0.mk hr
  clear hr
  go_enter Try.func8, Try.ntmps8
  go_wp2_with (first
    | (go_at_call 9; refine (shown_c _).mono ?_; rintro e w1 ⟨rfl, hb⟩; have HB := Aside0.mk hb; clear hb)
    | (go_at_call 10; refine (new_c _).mono ?_; rintro e w2 ⟨rfl, h1, h2, h3⟩; obtain ⟨H, eH⟩ : ∃ H, H = w1.heap.size := ⟨_, rfl⟩; have HH := Aside0.mk (show w.heap.size ≤ H by rw [eH]; exact HB.out.size); have HB2 := Aside0.mk (below_step HB.out h2); rw [← eH] at h1 ⊢; have HE := Aside0.mk h1; clear h1 h2 h3 eH HB))
  go_loopw [5, 6, 7] (fun f n i wr => ∃ (k fs : Nat) (ins : List (Int × Int)), f = .int .i64 (fs : Int) ∧ n = .int .i64 (k : Int) ∧ i = .int .i64 (k : Int) ∧ Aside0 (k ≤ l.length ∧ k ≤ 40 ∧ InOk k fs ins ∧ Ep wr H (inSt k fs ins)) ∧ Aside0 (Below w.heap.size w wr))
    (fun _ _ i _ => 100 - (Go.RowKit.intOf i).toNat)
  case atStart => exact ⟨0, 0, [], rfl, rfl, rfl, ⟨by omega, by omega, ⟨by simp, by simp, fun _ => rfl, fun h => absurd rfl h, Nat.le_refl _⟩, HE.out⟩, HB2⟩
  case round =>
    obtain ⟨k, fs, ins, rfl, rfl, rfl, HK, HBr⟩ := hrel
    obtain ⟨q1, q2, q3, q4⟩ := HK.out
    have HQ3 := Aside0.mk q3
    have HE := Aside0.mk q4
    clear HK q3 q4
    by_cases hlt : k < l.length ∧ k < 40
    · obtain ⟨g1, g2⟩ := hlt
      obtain ⟨ad, rfl, hcell⟩ := Cb_at HR.out k g1
      have hblk := Aside0.mk (lt_of_cell hcell)
      have k1 : (k : Int) < (l.length : Int) := by omega
      have k2 : (k : Int) < 40 := by omega
      have hw : wrap64 ((k : Int) + 1) = (k : Int) + 1 := by unfold wrap64; omega
      have OK0 := Aside0.mk (in_ok k fs ins q2 HQ3.out.le)
      have hk1 : (((k : Int) + 1 : Int) == 0) = false := beq_eq_false_iff_ne.2 (by omega)
      have hcell2 := hcell
      clear hcell
      generalize hb : l.getD k false = b at hcell2
      have hcell := hcell2
      clear hcell2 hb
      cases b with
      | false =>
        by_cases hf : fs = 0
        · have hf0 := Aside0.mk hf
          clear hf
          have IK : Aside0 (InOk (k + 1) 0 ins) := ⟨by have := HQ3.out.stay; rw [hf0.out] at this; exact this⟩
          have OK1 : Aside0 (Ok 103 (inPub k fs ins)) := ⟨by have := OK0.out.publish ((k : Int) + 1) (WalkArith.wf_i64 (by omega)); rw [in_pub' k fs ins HQ3.out.le] at this; exact ⟨this.ep0, this.ep9, this.pin0, this.pin9, this.ret, this.ever, this.keys⟩⟩
          have OK2 : Aside0 (Ok 103 (inSt (k + 1) 0 ins)) := ⟨by have := OK1.out.reclaim; rw [in_reclaim IK.out HQ3.out.le (.inl hf0.out.symm)] at this; exact this⟩
          obtain ⟨L, hL, hm, hl0⟩ : ∃ L : List Int, Aside0 ((inSt (k + 1) 0 ins).lives = L) ∧ Aside0 (L.length = k + 2 - (k + 1)) ∧ Aside0 (L.getD 0 0 = (((k + 1) : Nat) : Int)) := by
            refine ⟨_, ⟨in_lives (by omega) IK.out.le⟩, ⟨?_⟩, ⟨?_⟩⟩
            · rw [if_pos rfl]; simp
            · rw [if_pos rfl]; have h0 : k + 1 + 1 - (k + 1) = (k + 1 - (k + 1)) + 1 := by have := IK.out.le; omega
              rw [h0, List.range'_succ]; rfl
          obtain ⟨m, em⟩ : ∃ m, m = k + 2 - (k + 1) := ⟨_, rfl⟩
          rw [← em] at hm
          have hfk : (k + 1) ≤ k + 1 := by omega
          have hmp : (0 : Int) < (m : Int) := by omega
          have hw2 : wrap64 ((k : Int) + 1 - ((k : Int) + 1)) = (m : Int) - 1 := by unfold wrap64; omega
          have hw3 : wrap64 ((m : Int) - 1 + 1) = (m : Int) := by unfold wrap64; omega
          have hw4 : wrap64 (m : Int) = (m : Int) := by unfold wrap64; omega
          have hw5 : m = 1 := by omega
          have hz : fs = 0 := hf0.out
          subst hz
          have hz3 : (0 : Int) < (k : Int) + 1 := by omega
          have hfk := Aside0.mk hfk
          have em := Aside0.mk em
          go_wp2_with (first
            | (go_at_call 11; (try rw [hw]); refine (publish_v HE.out ((k : Int) + 1) OK0.out.ep0 (by have := OK0.out.ep9; omega) (in_pub' k 0 ins HQ3.out.le) (v := 0) (by unfold pubErr; rw [if_neg (by omega)])).mono ?_; rintro e w3 ⟨rfl, h1, h2⟩; have HE2 := Aside0.mk h1; have HB3 := Aside0.mk (below_fr HBr.out h2 HH.out); have hcl : w3.cell? (ad.add k) = some (.bool false) := (HB3.out.cell (p := ad.add k) hblk.out).trans hcell; clear h1 h2)
            | (go_at_call 21; refine (reclaim_v HE2.out (by have := OK1.out.ret; exact Nat.le_trans this (by omega)) rfl (n := (St.freed _).length) rfl (in_reclaim IK.out HQ3.out.le (.inl rfl))).mono ?_; rintro e w5 ⟨A5, c5, rfl, h3, h4, h1, h2⟩; have HE4 := Aside0.mk h1; have HB5 := Aside0.mk (below_fr HB3.out h2 HH.out); clear h1 h2 h3 h4)
            | (go_at_call 25; refine (lives_v HE4.out OK2.out.keys (by have := OK2.out.ever; omega) hL.out).mono ?_; rintro e w6 ⟨A6, c6, rfl, h3, h4, h2⟩; obtain ⟨ad6, rfl, hc6⟩ := C_head h4 (by rw [hm.out]; omega); rw [hl0.out] at hc6; rw [hm.out]; have HE5 := Aside0.mk (HE4.out.below h2); have HB6 := Aside0.mk (below_step HB5.out h2); clear h2 h3 h4))
          go_roundw
          case rel => exact ⟨k + 1, 0, _, rfl, by go_num, by go_num, ⟨g1, g2, IK.out, HE5.out⟩, HB6⟩
          case measure => simp [Go.RowKit.intOf]; omega
        · have hf0 := Aside0.mk hf
          clear hf
          have IK : Aside0 (InOk (k + 1) fs ins) := ⟨by have := HQ3.out.stay; exact this⟩
          have OK1 : Aside0 (Ok 103 (inPub k fs ins)) := ⟨by have := OK0.out.publish ((k : Int) + 1) (WalkArith.wf_i64 (by omega)); rw [in_pub' k fs ins HQ3.out.le] at this; exact ⟨this.ep0, this.ep9, this.pin0, this.pin9, this.ret, this.ever, this.keys⟩⟩
          have OK2 : Aside0 (Ok 103 (inSt (k + 1) fs ins)) := ⟨by have := OK1.out.reclaim; rw [in_reclaim IK.out HQ3.out.le (.inl rfl)] at this; exact this⟩
          obtain ⟨L, hL, hm, hl0⟩ : ∃ L : List Int, Aside0 ((inSt (k + 1) fs ins).lives = L) ∧ Aside0 (L.length = k + 2 - fs) ∧ Aside0 (L.getD 0 0 = ((fs : Nat) : Int)) := by
            refine ⟨_, ⟨in_lives (by omega) IK.out.le⟩, ⟨?_⟩, ⟨?_⟩⟩
            · rw [if_neg hf0.out]; simp
            · rw [if_neg hf0.out]; have h0 : k + 1 + 1 - fs = (k + 1 - fs) + 1 := by have := IK.out.le; omega
              rw [h0, List.range'_succ]; rfl
          obtain ⟨m, em⟩ : ∃ m, m = k + 2 - fs := ⟨_, rfl⟩
          rw [← em] at hm
          have hfk : fs ≤ k + 1 := by have := IK.out.le; omega
          have hmp : (0 : Int) < (m : Int) := by omega
          have hw2 : wrap64 ((k : Int) + 1 - ((fs : Int))) = (m : Int) - 1 := by unfold wrap64; omega
          have hw3 : wrap64 ((m : Int) - 1 + 1) = (m : Int) := by unfold wrap64; omega
          have hw4 : wrap64 (m : Int) = (m : Int) := by unfold wrap64; omega
          have hz : (0 : Int) < (fs : Int) := by have := hf0.out; omega
          have hz2 : ((fs : Int) == 0) = false := beq_eq_false_iff_ne.2 (by omega)
          have hz3 : (0 : Int) < (k : Int) + 1 := by omega
          have hfk := Aside0.mk hfk
          have em := Aside0.mk em
          go_wp2_with (first
            | (go_at_call 11; (try rw [hw]); refine (publish_v HE.out ((k : Int) + 1) OK0.out.ep0 (by have := OK0.out.ep9; omega) (in_pub' k fs ins HQ3.out.le) (v := 0) (by unfold pubErr; rw [if_neg (by omega)])).mono ?_; rintro e w3 ⟨rfl, h1, h2⟩; have HE2 := Aside0.mk h1; have HB3 := Aside0.mk (below_fr HBr.out h2 HH.out); have hcl : w3.cell? (ad.add k) = some (.bool false) := (HB3.out.cell (p := ad.add k) hblk.out).trans hcell; clear h1 h2)
            | (go_at_call 21; refine (reclaim_v HE2.out (by have := OK1.out.ret; exact Nat.le_trans this (by omega)) rfl (n := (St.freed _).length) rfl (in_reclaim IK.out HQ3.out.le (.inl rfl))).mono ?_; rintro e w5 ⟨A5, c5, rfl, h3, h4, h1, h2⟩; have HE4 := Aside0.mk h1; have HB5 := Aside0.mk (below_fr HB3.out h2 HH.out); clear h1 h2 h3 h4)
            | (go_at_call 25; refine (lives_v HE4.out OK2.out.keys (by have := OK2.out.ever; omega) hL.out).mono ?_; rintro e w6 ⟨A6, c6, rfl, h3, h4, h2⟩; obtain ⟨ad6, rfl, hc6⟩ := C_head h4 (by rw [hm.out]; omega); rw [hl0.out] at hc6; rw [hm.out]; have HE5 := Aside0.mk (HE4.out.below h2); have HB6 := Aside0.mk (below_step HB5.out h2); clear h2 h3 h4))
          go_roundw
          case rel => exact ⟨k + 1, fs, _, rfl, by go_num, by go_num, ⟨g1, g2, IK.out, HE5.out⟩, HB6⟩
          case measure => simp [Go.RowKit.intOf]; omega
      | true =>
        by_cases hf : fs = 0
        · have hf0 := Aside0.mk hf
          clear hf
          have IK : Aside0 (InOk (k + 1) (k + 1) (ins ++ [((k : Int), ((k + 1 : Nat) : Int))])) := ⟨by have := HQ3.out.come; rw [if_pos hf0.out] at this; exact this⟩
          have OK1 : Aside0 (Ok 103 (inPub k fs (ins ++ [((k : Int), ((k + 1 : Nat) : Int))]))) := ⟨by have := OK0.out.publish ((k : Int) + 1) (WalkArith.wf_i64 (by omega)); rw [in_pub' k fs ins HQ3.out.le] at this; exact ⟨this.ep0, this.ep9, this.pin0, this.pin9, this.ret, this.ever, this.keys⟩⟩
          have OK2 : Aside0 (Ok 103 (inSt (k + 1) (k + 1) (ins ++ [((k : Int), ((k + 1 : Nat) : Int))]))) := ⟨by have := OK1.out.reclaim; rw [in_reclaim IK.out HQ3.out.le (.inr ⟨hf0.out, rfl⟩)] at this; exact this⟩
          obtain ⟨L, hL, hm, hl0⟩ : ∃ L : List Int, Aside0 ((inSt (k + 1) (k + 1) (ins ++ [((k : Int), ((k + 1 : Nat) : Int))])).lives = L) ∧ Aside0 (L.length = k + 2 - (k + 1)) ∧ Aside0 (L.getD 0 0 = (((k + 1) : Nat) : Int)) := by
            refine ⟨_, ⟨in_lives (by omega) IK.out.le⟩, ⟨?_⟩, ⟨?_⟩⟩
            · rw [if_neg (by omega)]; simp
            · rw [if_neg (by omega)]; have h0 : k + 1 + 1 - (k + 1) = (k + 1 - (k + 1)) + 1 := by have := IK.out.le; omega
              rw [h0, List.range'_succ]; rfl
          obtain ⟨m, em⟩ : ∃ m, m = k + 2 - (k + 1) := ⟨_, rfl⟩
          rw [← em] at hm
          have hfk : (k + 1) ≤ k + 1 := by omega
          have hmp : (0 : Int) < (m : Int) := by omega
          have hw2 : wrap64 ((k : Int) + 1 - ((k : Int) + 1)) = (m : Int) - 1 := by unfold wrap64; omega
          have hw3 : wrap64 ((m : Int) - 1 + 1) = (m : Int) := by unfold wrap64; omega
          have hw4 : wrap64 (m : Int) = (m : Int) := by unfold wrap64; omega
          have hw5 : m = 1 := by omega
          have hz : fs = 0 := hf0.out
          subst hz
          have hz3 : (0 : Int) < (k : Int) + 1 := by omega
          have hfk := Aside0.mk hfk
          have em := Aside0.mk em
          go_wp2_with (first
            | (go_at_call 11; (try rw [hw]); refine (publish_v HE.out ((k : Int) + 1) OK0.out.ep0 (by have := OK0.out.ep9; omega) (in_pub' k 0 ins HQ3.out.le) (v := 0) (by unfold pubErr; rw [if_neg (by omega)])).mono ?_; rintro e w3 ⟨rfl, h1, h2⟩; have HE2 := Aside0.mk h1; have HB3 := Aside0.mk (below_fr HBr.out h2 HH.out); have hcl : w3.cell? (ad.add k) = some (.bool true) := (HB3.out.cell (p := ad.add k) hblk.out).trans hcell; clear h1 h2)
            | (go_at_call 13; refine (enter_v HE2.out (k : Int) (c := (k : Int) + 1) rfl (in_enter HQ3.out)).mono ?_; rintro e w4 ⟨rfl, h1, h2⟩; have HE3 := Aside0.mk h1; have HB4 := Aside0.mk (below_fr HB3.out h2 HH.out); clear h1 h2)
            | (go_at_call 21; refine (reclaim_v HE3.out (by have := OK1.out.ret; exact Nat.le_trans this (by omega)) rfl (n := (St.freed _).length) rfl (in_reclaim IK.out HQ3.out.le (.inr ⟨rfl, rfl⟩))).mono ?_; rintro e w5 ⟨A5, c5, rfl, h3, h4, h1, h2⟩; have HE4 := Aside0.mk h1; have HB5 := Aside0.mk (below_fr HB4.out h2 HH.out); clear h1 h2 h3 h4)
            | (go_at_call 25; refine (lives_v HE4.out OK2.out.keys (by have := OK2.out.ever; omega) hL.out).mono ?_; rintro e w6 ⟨A6, c6, rfl, h3, h4, h2⟩; obtain ⟨ad6, rfl, hc6⟩ := C_head h4 (by rw [hm.out]; omega); rw [hl0.out] at hc6; rw [hm.out]; have HE5 := Aside0.mk (HE4.out.below h2); have HB6 := Aside0.mk (below_step HB5.out h2); clear h2 h3 h4))
          go_roundw
          case rel => exact ⟨k + 1, (k + 1), _, rfl, by go_num, by go_num, ⟨g1, g2, IK.out, HE5.out⟩, HB6⟩
          case measure => simp [Go.RowKit.intOf]; omega
        · have hf0 := Aside0.mk hf
          clear hf
          have IK : Aside0 (InOk (k + 1) fs (ins ++ [((k : Int), ((k + 1 : Nat) : Int))])) := ⟨by have := HQ3.out.come; rw [if_neg hf0.out] at this; exact this⟩
          have OK1 : Aside0 (Ok 103 (inPub k fs (ins ++ [((k : Int), ((k + 1 : Nat) : Int))]))) := ⟨by have := OK0.out.publish ((k : Int) + 1) (WalkArith.wf_i64 (by omega)); rw [in_pub' k fs ins HQ3.out.le] at this; exact ⟨this.ep0, this.ep9, this.pin0, this.pin9, this.ret, this.ever, this.keys⟩⟩
          have OK2 : Aside0 (Ok 103 (inSt (k + 1) fs (ins ++ [((k : Int), ((k + 1 : Nat) : Int))]))) := ⟨by have := OK1.out.reclaim; rw [in_reclaim IK.out HQ3.out.le (.inl rfl)] at this; exact this⟩
          obtain ⟨L, hL, hm, hl0⟩ : ∃ L : List Int, Aside0 ((inSt (k + 1) fs (ins ++ [((k : Int), ((k + 1 : Nat) : Int))])).lives = L) ∧ Aside0 (L.length = k + 2 - fs) ∧ Aside0 (L.getD 0 0 = ((fs : Nat) : Int)) := by
            refine ⟨_, ⟨in_lives (by omega) IK.out.le⟩, ⟨?_⟩, ⟨?_⟩⟩
            · rw [if_neg hf0.out]; simp
            · rw [if_neg hf0.out]; have h0 : k + 1 + 1 - fs = (k + 1 - fs) + 1 := by have := IK.out.le; omega
              rw [h0, List.range'_succ]; rfl
          obtain ⟨m, em⟩ : ∃ m, m = k + 2 - fs := ⟨_, rfl⟩
          rw [← em] at hm
          have hfk : fs ≤ k + 1 := by have := IK.out.le; omega
          have hmp : (0 : Int) < (m : Int) := by omega
          have hw2 : wrap64 ((k : Int) + 1 - ((fs : Int))) = (m : Int) - 1 := by unfold wrap64; omega
          have hw3 : wrap64 ((m : Int) - 1 + 1) = (m : Int) := by unfold wrap64; omega
          have hw4 : wrap64 (m : Int) = (m : Int) := by unfold wrap64; omega
          have hz : (0 : Int) < (fs : Int) := by have := hf0.out; omega
          have hz2 : ((fs : Int) == 0) = false := beq_eq_false_iff_ne.2 (by omega)
          have hz3 : (0 : Int) < (k : Int) + 1 := by omega
          have hfk := Aside0.mk hfk
          have em := Aside0.mk em
          go_wp2_with (first
            | (go_at_call 11; (try rw [hw]); refine (publish_v HE.out ((k : Int) + 1) OK0.out.ep0 (by have := OK0.out.ep9; omega) (in_pub' k fs ins HQ3.out.le) (v := 0) (by unfold pubErr; rw [if_neg (by omega)])).mono ?_; rintro e w3 ⟨rfl, h1, h2⟩; have HE2 := Aside0.mk h1; have HB3 := Aside0.mk (below_fr HBr.out h2 HH.out); have hcl : w3.cell? (ad.add k) = some (.bool true) := (HB3.out.cell (p := ad.add k) hblk.out).trans hcell; clear h1 h2)
            | (go_at_call 13; refine (enter_v HE2.out (k : Int) (c := (k : Int) + 1) rfl (in_enter HQ3.out)).mono ?_; rintro e w4 ⟨rfl, h1, h2⟩; have HE3 := Aside0.mk h1; have HB4 := Aside0.mk (below_fr HB3.out h2 HH.out); clear h1 h2)
            | (go_at_call 21; refine (reclaim_v HE3.out (by have := OK1.out.ret; exact Nat.le_trans this (by omega)) rfl (n := (St.freed _).length) rfl (in_reclaim IK.out HQ3.out.le (.inl rfl))).mono ?_; rintro e w5 ⟨A5, c5, rfl, h3, h4, h1, h2⟩; have HE4 := Aside0.mk h1; have HB5 := Aside0.mk (below_fr HB4.out h2 HH.out); clear h1 h2 h3 h4)
            | (go_at_call 25; refine (lives_v HE4.out OK2.out.keys (by have := OK2.out.ever; omega) hL.out).mono ?_; rintro e w6 ⟨A6, c6, rfl, h3, h4, h2⟩; obtain ⟨ad6, rfl, hc6⟩ := C_head h4 (by rw [hm.out]; omega); rw [hl0.out] at hc6; rw [hm.out]; have HE5 := Aside0.mk (HE4.out.below h2); have HB6 := Aside0.mk (below_step HB5.out h2); clear h2 h3 h4))
          go_roundw
          case rel => exact ⟨k + 1, fs, _, rfl, by go_num, by go_num, ⟨g1, g2, IK.out, HE5.out⟩, HB6⟩
          case measure => simp [Go.RowKit.intOf]; omega
    · have hcase : (k : Int) < (l.length : Int) ∧ ¬ (k : Int) < 40 ∨ ¬ (k : Int) < (l.length : Int) := by omega
      clear hlt q1 q2
      rcases hcase with ⟨e1, e2⟩ | e1
      · go_wp2
        go_ret
        exact ⟨rfl, HBr.out⟩
      · go_wp2
        go_ret
        exact ⟨rfl, HBr.out⟩
end Go.Proofs.Ytfiehglbpcjkfaa.Hand
