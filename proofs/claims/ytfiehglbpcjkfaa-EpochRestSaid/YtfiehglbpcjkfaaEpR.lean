/- Reclaim: two loops over maps, the lists, the sort. -/
import Derived.Test.YtfiehglbpcjkfaaEpL
namespace Go.Proofs.Ytfiehglbpcjkfaa.Hand
open Go.Proofs Go Go.MapKept Go.RowKit Go.Shelf Go.Sort Go.Maps Go.Lib Go.Proofs.YtfiehglbpcjkfaaW.PrintWords Go.Proofs.YtfiehglbpcjkfaaW.PrintLast Go.Proofs.YtfiehglbpcjkfaaW.PrintMore
set_option linter.unusedVariables false
set_option linter.unusedSectionVars false
set_option linter.unusedSimpArgs false
section
variable {κ β : Type} [DecidableEq κ]
theorem RngB.left {enc : κ → Value} {ev : β → Value} {w : World} {g r : Nat} {l todo : List (κ × β)} (h : RngB enc ev w g r l todo) : w.rangeLeft g r = todo.length := by
  obtain ⟨es, clock, since, seen, c0, hb, hs, he, hr, ho, hc, hc2, ht⟩ := h
  unfold World.rangeLeft
  rw [hb, hr]
  have := congrArg List.length ht
  simpa using this
theorem ldel_perm : ∀ {l : List (κ × β)} {p : κ × β}, (l.map (·.1)).Nodup → p ∈ l → l.Perm (p :: ldel l p.1)
  | [], _, _, h => by simp at h
  | q :: l, p, hn, h => by
    simp only [List.map_cons, List.nodup_cons] at hn
    rcases List.mem_cons.1 h with rfl | h
    · have : ldel (p :: l) p.1 = l := by
        unfold ldel
        rw [List.filter_cons_of_neg (by simp)]
        exact List.filter_eq_self.2 fun x hx => by simpa using fun e => hn.1 (List.mem_map.2 ⟨x, hx, e⟩)
      rw [this]
    · have hq : q.1 ≠ p.1 := fun e => hn.1 (List.mem_map.2 ⟨p, h, e.symm⟩)
      have : ldel (q :: l) p.1 = q :: ldel l p.1 := by
        unfold ldel
        rw [List.filter_cons_of_pos (by simpa using hq)]
      rw [this]
      exact ((ldel_perm hn.2 h).cons q).trans (List.Perm.swap _ _ _)
theorem key_inj : ∀ {l : List (κ × β)} {p q : κ × β}, (l.map (·.1)).Nodup → p ∈ l → q ∈ l → p.1 = q.1 → p = q
  | [], _, _, _, h, _, _ => by simp at h
  | a :: l, p, q, hn, hp, hq, e => by
    simp only [List.map_cons, List.nodup_cons] at hn
    rcases List.mem_cons.1 hp with h1 | h1 <;> rcases List.mem_cons.1 hq with h2 | h2
    · rw [h1, h2]
    · exact absurd (List.mem_map.2 ⟨q, h2, by rw [← e, h1]⟩) hn.1
    · exact absurd (List.mem_map.2 ⟨p, h1, by rw [e, h2]⟩) hn.1
    · exact key_inj hn.2 h1 h2 e
end
/-- What is still in the map when those in dn have been seen. -/
def stays (ins dn : List (Int × Int)) (q : Int × Int) : Bool := held ins q.2 || !(dn.any fun d => decide (d.1 = q.1))
def outs (ins dn : List (Int × Int)) : List Int := (dn.filter fun p => !held ins p.2).map (·.1)
theorem stays_start (ins l : List (Int × Int)) : l.filter (stays ins []) = l := List.filter_eq_self.2 fun q _ => by simp [stays]
theorem stays_keep {ins l dn : List (Int × Int)} {p : Int × Int} (hn : (l.map (·.1)).Nodup) (hp : p ∈ l) (hh : held ins p.2 = true) : l.filter (stays ins (dn ++ [p])) = l.filter (stays ins dn) := by
  refine List.filter_congr fun q hq => ?_
  unfold stays
  by_cases e : p.1 = q.1
  · have := key_inj hn hp hq e
    subst this
    rw [hh]
    rfl
  · rw [List.any_append]
    simp [e]
theorem stays_drop {ins l dn : List (Int × Int)} {p : Int × Int} (hn : (l.map (·.1)).Nodup) (hp : p ∈ l) (hh : held ins p.2 = false) : l.filter (stays ins (dn ++ [p])) = ldel (l.filter (stays ins dn)) p.1 := by
  unfold ldel
  rw [List.filter_filter]
  refine List.filter_congr fun q hq => ?_
  unfold stays
  by_cases e : p.1 = q.1
  · have := key_inj hn hp hq e
    subst this
    rw [hh]
    simp
  · have e2 : ¬ q.1 = p.1 := fun h => e h.symm
    rw [List.any_append]
    simp [e, e2]
theorem stays_end {ins l dn : List (Int × Int)} (hp : l.Perm dn) : l.filter (stays ins dn) = l.filter (fun p => held ins p.2) := by
  refine List.filter_congr fun q hq => ?_
  unfold stays
  have : dn.any (fun d => decide (d.1 = q.1)) = true := List.any_eq_true.2 ⟨q, hp.mem_iff.1 hq, by simp⟩
  rw [this]
  simp
theorem outs_keep {ins dn : List (Int × Int)} {p : Int × Int} (hh : held ins p.2 = true) : outs ins (dn ++ [p]) = outs ins dn := by simp [outs, hh]
theorem outs_drop {ins dn : List (Int × Int)} {p : Int × Int} (hh : held ins p.2 = false) : outs ins (dn ++ [p]) = outs ins dn ++ [p.1] := by simp [outs, hh]
theorem outs_len (ins dn : List (Int × Int)) : (outs ins dn).length ≤ dn.length := by
  unfold outs
  rw [List.length_map]
  exact List.length_filter_le _ _
theorem outs_end {ins l dn : List (Int × Int)} (hp : l.Perm dn) : (outs ins dn).Perm ((l.filter (fun p => !held ins p.2)).map (·.1)) := ((hp.filter _).map _).symm
theorem sort33_c {w : World} {base n : Nat} {v : Value} {xs : List Int} (h : w.ownsRow base 3 1 v n (nums .i64 xs)) (hn : xs.length = n) (hm : n ≤ 1000000) :
    Calls Try.prog 33 #[v] w fun e w' => e = .returned (.tuple #[]) ∧ w'.ownsRow base 3 1 v n (nums .i64 (xs.mergeSort fun x y => decide (x ≤ y))) ∧ Below base w w' := by
  rcases h.2 with ⟨rfl, hz⟩ | ⟨blk, cap, cur, rfl, hg, hb, hc, hcap, hsz, ht⟩
  · have : xs = [] := List.eq_nil_of_length_eq_zero (by omega)
    subst this
    refine Calls.mono (AnyM.slices_Sort_int_none Try.sortA none 0 w) ?_
    rintro e w' ⟨rfl, rfl⟩
    exact ⟨rfl, by simpa using h, Below.refl _ _⟩
  · have hHold : Holds encZ w blk 0 xs.toArray := holds_of_block_i hb (by rw [Nat.mul_one] at ht; rw [hn]; exact ht)
    have hc2 := AnyM.slices_Sort_int Try.sortA blk 0 cap xs w hHold (Array.getElem?_eq_some_iff.1 hb).1 (by omega)
    rw [hn] at hc2
    refine Calls.mono hc2 ?_
    rintro e w' ⟨rfl, k, os, rfl⟩
    refine ⟨rfl, ?_, ?_⟩
    · have := ownsRow_sorted_i (n := k) (os := os) (ss := xs) (ts := xs.mergeSort fun x y => decide (x ≤ y)) (by simp) hg hb (by omega) hcap hsz
      rw [hn] at this
      exact this
    · have := grownBy_sorted_i (w := w) (g := blk) (n := k) (os := os) (xs.mergeSort fun x y => decide (x ≤ y)).toArray
      exact ⟨this.os, this.tape, this.output, this.size, fun j hj => this.block j (by have := (Array.getElem?_eq_some_iff.1 hb).1; omega) (fun e => by cases e; omega)⟩
section
variable {w : World} {H : Nat} {s : St}
theorem own_fr {W W1 : World} {base e size n : Nat} {v : Value} {xs : List Value} (h : W.ownsRow base e size v n xs) (hm : ∀ k, base ≤ k → k < W.heap.size → W1.heap[k]? = W.heap[k]?) : W1.ownsRow base e size v n xs :=
  own_move h (fun k hk => hm k (own_base h k hk) (own_lt h k hk))
theorem info3 : (Try.prog.info? 3).map (fun i => (i.zero, i.size, i.bytes)) = some (some (.int .i64 0), 1, 8) := by kernel_rfl
theorem reclaim_end {w W w5 : World} {H : Nat} {s : St} {dn : List (Int × Int)} {v : Value} (hp : s.ret.Perm (dn ++ [])) (hrow : w5.ownsRow (w.heap.size + 1) 3 1 v (outs s.ins dn).length (nums .i64 ((outs s.ins dn).mergeSort fun x y => decide (x ≤ y))))
    (hE : Ep W H { s with ret := s.ret.filter (stays s.ins dn) }) (hF : Fr H w W) (hb : Below (w.heap.size + 1) W w5) (hlt : H + 4 < w.heap.size) :
    ∃ A c, Ending.returned v = .returned (.slice A s.freed.length c) ∧ s.freed.length ≤ c ∧ Kd.C (Kd.int .i64) w5 A s.freed.length s.freed ∧ Ep w5 H s.reclaim ∧ Fr H w w5 := by
  rw [List.append_nil] at hp
  have hfr : (outs s.ins dn).mergeSort (fun x y => decide (x ≤ y)) = s.freed := mergeSort_of_perm_i (outs_end hp)
  have hlen : (outs s.ins dn).length = s.freed.length := by rw [← hfr]; simp
  rw [hfr, hlen] at hrow
  obtain ⟨A, c, hv, hr⟩ := own_reads_row hrow (Kd.reps_scalar (enc := encZ) s.freed) rfl
  subst hv
  refine ⟨A, c, rfl, ?_, hr, ?_, ?_⟩
  · rcases hrow.2 with ⟨h0, h1⟩ | ⟨g', cap', cur, hv, hg, hb, hn, hcap, hsz, ht⟩
    · omega
    · cases hv
      exact hn
  · rw [stays_end hp] at hE
    exact hE.keep (fun j h1 h2 => hb.block j (by omega))
  · exact ⟨hb.os.trans hF.os, hb.tape.trans hF.tape, hb.output.trans hF.output, Nat.le_trans hF.size hb.size, fun k hk ho => (hb.block k (by omega)).trans (hF.block k hk ho)⟩
theorem ldel_twice (l : List (Int × Int)) (k : Int) : ldel (ldel l k) k = ldel l k := by
  unfold ldel
  rw [List.filter_filter]
  congr 1
  funext p
  simp
theorem held_snoc (dn : List (Int × Int)) (q : Int × Int) (n : Int) : held (dn ++ [q]) n = (held dn n || decide (q.2 < n)) := by simp [held]
theorem held_perm {l dn : List (Int × Int)} (h : l.Perm dn) (n : Int) : held l n = held dn n := h.any_eq
theorem grown_trans {a b c : World} {r : Nat} (h : a.grownBy b (some r)) (k : b.grownBy c (some r)) : a.grownBy c (some r) :=
  ⟨k.os.trans h.os, k.tape.trans h.tape, k.output.trans h.output, Nat.le_trans h.size k.size, fun i hi hne => (k.block i (Nat.lt_of_lt_of_le hi h.size) hne).trans (h.block i hi hne)⟩
theorem fr_below {w b c : World} {H : Nat} (h : Fr H w b) (k : Below (w.heap.size + 1) b c) : Fr H w c :=
  ⟨k.os.trans h.os, k.tape.trans h.tape, k.output.trans h.output, Nat.le_trans h.size k.size, fun i hi ho => (k.block i (by omega)).trans (h.block i hi ho)⟩
theorem fr_iter {w b c : World} {H r : Nat} (h : Fr H w b) (k : b.grownBy c (some r)) (hr : w.heap.size ≤ r) : Fr H w c :=
  ⟨k.os.trans h.os, k.tape.trans h.tape, k.output.trans h.output, Nat.le_trans h.size k.size, fun i hi ho => (k.block i (Nat.lt_of_lt_of_le hi h.size) (fun e => by cases e; omega)).trans (h.block i hi ho)⟩
set_option maxHeartbeats 1000000 in
set_option maxRecDepth 100000 in
theorem reclaim_c (he : Ep w H s) (hl : s.ret.length ≤ 1000000) :
    Calls Try.prog 21 #[.pointer (some ⟨H + 4, 0, none⟩)] w fun e w' => ∃ A c, e = .returned (.slice A s.freed.length c) ∧ s.freed.length ≤ c ∧ Kd.C (Kd.int .i64) w' A s.freed.length s.freed ∧ Ep w' H s.reclaim ∧ Fr H w w' := by
  have hlt := he.lt
  have hnd := he.ret.nodup
  have c3 : w.cell? ⟨H + 4, 3, none⟩ = some (.map (some (H + 1))) := (blk_cell he.cells 3).trans rfl
  have hC := Aside0.mk he
  have LT := Aside0.mk hlt
  have ND := Aside0.mk hnd
  have HL := Aside0.mk hl
  clear he hlt hnd hl
  go_enter Try.func21, Try.ntmps21
  go_wp2_with (first
    | (at_range; refine wpList_rng rfl _ 50 rfl Try.underlying50 rfl hC.out.ret ?_; intro w0 hrg0 hg0 hs0))
  go_frame
  go_loopw [2] (fun v wr => ∃ (dn todo : List (Int × Int)), Aside0 (RngB (Value.int .i64) (Value.int .i64) wr (H + 1) w.heap.size (s.ret.filter (stays s.ins dn)) todo ∧ s.ret.Perm (dn ++ todo) ∧
      wr.ownsRow (w.heap.size + 1) 3 1 v (outs s.ins dn).length (nums .i64 (outs s.ins dn)) ∧ Ep wr H { s with ret := s.ret.filter (stays s.ins dn) } ∧ Fr H w wr ∧ w.heap.size + 1 ≤ wr.heap.size))
    (fun _ wr => wr.rangeLeft (H + 1) w.heap.size)
  case atStart =>
    refine ⟨[], s.ret, ⟨?_, List.Perm.refl _, own_nil _ _ _ _, ?_, (Fr.refl H w).grown0 hg0, by omega⟩⟩
    · rw [stays_start]; exact hrg0
    · rw [stays_start]
      exact hC.out.keep (fun j h1 h2 => hg0.block j (by have := LT.out; omega) (by simp))
  case round =>
    obtain ⟨dn, todo, hR⟩ := hrel
    have hrg := hR.out.1
    go_wp2_with (first
      | (at_next; refine wpList_nxt intInj rfl _ rfl w.heap.size rfl hrg ?_ ?_))
    · -- nothing is left
      intro htodo
      subst htodo
      have hS := Aside0.mk (sort33_c hR.out.2.2.1 rfl (by have h1 := hR.out.2.1.length_eq; have h2 := outs_len s.ins dn; have := HL.out; simp at h1; omega))
      clear hrg
      go_wp2_with (first
        | (go_at_call 33; refine hS.out.mono ?_; rintro e w5 ⟨rfl, hrow, hb⟩; have hrow := Aside0.mk hrow; have hb := Aside0.mk hb))
      go_ret
      exact reclaim_end hR.out.2.1 hrow.out hR.out.2.2.2.1 hR.out.2.2.2.2.1 hb.out LT.out
    · intro r0 since w1 hp hrg1 hg1 hs1 hen
      have hq := hR.out
      clear hrg
      obtain ⟨_, hpm, hrow, hE, hF, hsz⟩ := hq
      have hps : (r0, since) ∈ s.ret := hpm.mem_iff.2 (List.mem_append_right _ hp)
      have hpm1 : s.ret.Perm ((dn ++ [(r0, since)]) ++ ldel todo r0) := hpm.trans (by rw [List.append_assoc]; exact (ldel_perm hR.out.1.nodup hp).append_left dn)
      have hE1 := Aside0.mk (hE.keep (w' := w1) (fun j h1 h2 => hg1.block j (by have := LT.out; omega) (fun e => by cases e; have := LT.out; omega)))
      have hF1 := Aside0.mk (fr_iter hF hg1 (Nat.le_refl _))
      have hrow1 := Aside0.mk (own_fr (W1 := w1) hrow (fun k h1 h2 => hg1.block k h2 (fun e => by cases e; omega)))
      have c4 : w1.cell? ⟨H + 4, 4, none⟩ = some (.map (some (H + 2))) := (blk_cell hE1.out.cells 4).trans rfl
      have hsz1 := Aside0.mk (show w.heap.size + 1 ≤ w1.heap.size by omega)
      have hrg1 := Aside0.mk hrg1
      have hpm1 := Aside0.mk hpm1
      have hps := Aside0.mk hps
      have hlt2 := Aside0.mk (show (ldel todo r0).length < todo.length by have := (ldel_perm hR.out.1.nodup hp).length_eq; simp at this; omega)
      clear hpm hrow hE hF hsz hg1 hs1 hp
      go_wp2_with (first
        | (at_range; refine wpList_rng rfl _ 50 rfl Try.underlying50 rfl hE1.out.ins ?_; intro w2 hrg2 hg2 hs2))
      go_loopw [5] (fun b wr2 => ∃ (dn2 td : List (Int × Int)), b = .bool (held dn2 since) ∧ Aside0 (RngB (Value.int .i64) (Value.int .i64) wr2 (H + 2) w1.heap.size s.ins td ∧ s.ins.Perm (dn2 ++ td) ∧ w2.grownBy wr2 (some w1.heap.size)))
        (fun _ wr => wr.rangeLeft (H + 2) w1.heap.size)
      case atStart => exact ⟨[], s.ins, rfl, ⟨hrg2, List.Perm.refl _, ⟨rfl, rfl, rfl, Nat.le_refl _, fun _ _ _ => rfl⟩⟩⟩
      case round =>
        obtain ⟨dn2, td, rfl, hR2⟩ := hrel
        have hrg3 := hR2.out.1
        go_wp2_with (first
          | (at_next; refine wpList_nxt intInj rfl _ rfl w1.heap.size rfl hrg3 ?_ ?_))
        · intro htd
          subst htd
          clear hrg3
          have hh : held dn2 since = held s.ins since := (held_perm (by simpa using hR2.out.2.1) since).symm
          rw [hh]
          have hL2 : Aside0 (∀ k, k < w1.heap.size → wr.heap[k]? = w1.heap[k]?) := ⟨fun k hk => (hR2.out.2.2.block k (by omega) (fun e => by cases e; omega)).trans (hg2.block k hk (by simp))⟩
          have hS2 := Aside0.mk (show w1.heap.size ≤ wr.heap.size from Nat.le_trans (by omega) hR2.out.2.2.size)
          have hE2 := Aside0.mk (hE1.out.keep (w' := wr) (fun j h1 h2 => hL2.out j (by have := LT.out; have := hsz1.out; omega)))
          have hF2 := Aside0.mk (fr_iter (hF1.out.grown0 hg2) hR2.out.2.2 (by have := hsz1.out; omega))
          have hrow2 := Aside0.mk (own_fr (W1 := wr) hrow1.out (fun k h1 h2 => hL2.out k h2))
          have hrg2 := Aside0.mk (hrg1.out.keep (w1 := wr) (hL2.out _ (by have := LT.out; have := hsz1.out; omega)) (hL2.out _ (by have := hsz1.out; omega)))
          have d3 : wr.cell? ⟨H + 4, 3, none⟩ = some (.map (some (H + 1))) := (blk_cell hE2.out.cells 3).trans rfl
          have HR := hR
          clear hR hR2 hrg1 hE1 hF1 hrow1 hL2 c4 hen hg2 hs2
          cases hb : held s.ins since with
          | true =>
            have hb := Aside0.mk hb
            go_wp2
            go_roundw
            case rel => exact ⟨dn ++ [(r0, since)], ldel todo r0, ⟨by rw [stays_keep ND.out hps.out hb.out]; exact hrg2.out, hpm1.out, by rw [outs_keep hb.out]; exact hrow2.out, by rw [stays_keep ND.out hps.out hb.out]; exact hE2.out, hF2.out, Nat.le_trans hsz1.out hS2.out⟩⟩
            case measure => rw [hrg2.out.left, HR.out.1.left]; exact hlt2.out
          | false =>
            have hb := Aside0.mk hb
            go_wp2_with (first
              | (at_builtin; refine print_append_num (w0 := wr) (W := wr) (w.heap.size + 1) rfl _ _ 28 3 .i64 8 rfl Try.underlying28 info3 (by decide) u2 (outs s.ins dn) r0 rfl rfl hrow2.out (Below.refl _ _) (Nat.le_trans hsz1.out hS2.out) (by have h1 := hpm1.out.length_eq; have h2 := outs_len s.ins dn; have := HL.out; simp at h1; omega) ?_; intro v1 w4 hown hB hg4 hat; clear hat hg4; have hE4 := Aside0.mk (hE2.out.keep (fun j h1 h2 => hB.block j (by have := LT.out; omega))); have hrg5 := Aside0.mk (hrg2.out.keep (hB.block _ (by have := LT.out; omega)) (hB.block _ (by omega))); have hF4 := Aside0.mk (fr_below hF2.out hB); have hown := Aside0.mk hown; have hsz4 := Aside0.mk (Nat.le_trans hS2.out hB.size); have g3 : w4.cell? ⟨H + 4, 3, none⟩ = some (.map (some (H + 1))) := (blk_cell hE4.out.cells 3).trans rfl; clear hB)
              | (at_delete; refine wpList_drg rfl _ _ 50 3 rfl Try.underlying50 Try.underlying3 intKey intInj rfl hrg5.out r0 rfl ?_; intro w5 h5 hg5 hs5; have hrg6 := Aside0.mk h5; have hE5 := Aside0.mk (hE4.out.ret' hg5 h5.map); have hF5 := Aside0.mk (hF4.out.grown hg5 (by omega) (by omega)); have hown5 := Aside0.mk (own_fr (W1 := w5) hown.out (fun k h1 h2 => hg5.block k h2 (fun e => by cases e; have := LT.out; omega))); have hsz5 := Aside0.mk (show w.heap.size + 1 ≤ w5.heap.size by have := hsz4.out; have := hsz1.out; omega); clear h5 hg5 hs5))
            go_roundw
            case rel => exact ⟨dn ++ [(r0, since)], ldel todo r0, ⟨by rw [stays_drop ND.out hps.out hb.out]; have := hrg6.out; rw [ldel_twice] at this; exact this, hpm1.out, by rw [outs_drop hb.out]; exact hown5.out, by rw [stays_drop ND.out hps.out hb.out]; exact hE5.out, hF5.out, hsz5.out⟩⟩
            case measure => have := hrg6.out; rw [ldel_twice] at this; rw [this.left, HR.out.1.left]; exact hlt2.out
        · intro k2 y2 w3 hq hrg4 hg4 hs4 hen4
          have hpm4 : s.ins.Perm ((dn2 ++ [(k2, y2)]) ++ ldel td k2) := hR2.out.2.1.trans (by rw [List.append_assoc]; exact (ldel_perm hR2.out.1.nodup hq).append_left dn2)
          have hg5 := grown_trans hR2.out.2.2 hg4
          have hlt5 := Aside0.mk (show (ldel td k2).length < td.length by have := (ldel_perm hR2.out.1.nodup hq).length_eq; simp at this; omega)
          have hrg3 := Aside0.mk hrg3
          have hrg4 := Aside0.mk hrg4
          have hpm4 := Aside0.mk hpm4
          have hg5 := Aside0.mk hg5
          clear hg4 hs4 hq
          go_wp2
          all_goals go_roundw
          case rel => exact ⟨dn2 ++ [(k2, y2)], ldel td k2, by rw [held_snoc]; simp [*], ⟨hrg4.out, hpm4.out, hg5.out⟩⟩
          case measure => rw [hrg4.out.left, hrg3.out.left]; exact hlt5.out
          case rel => exact ⟨dn2 ++ [(k2, y2)], ldel td k2, by rw [held_snoc]; simp [*], ⟨hrg4.out, hpm4.out, hg5.out⟩⟩
          case measure => rw [hrg4.out.left, hrg3.out.left]; exact hlt5.out
end
end Go.Proofs.Ytfiehglbpcjkfaa.Hand
