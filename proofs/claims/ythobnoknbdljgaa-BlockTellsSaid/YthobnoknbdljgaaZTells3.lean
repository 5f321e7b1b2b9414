/- What the claim needs of its texts, one behind the other (laid by a program of the session's). -/
import Derived.Test.YthobnoknbdljgaaZTells2
import Derived.Deep.RegionHeldLaw
section
namespace Go.Proofs.Ythobnoknbdljgaa.Hand
open Go.RowKit Go.Proofs.YthobnoknbdljgaaW.PrintWords Go.Proofs.YthobnoknbdljgaaW.PrintLast Go.Proofs.YthobnoknbdljgaaW.PrintMore PB0
set_option linter.unusedVariables false
set_option linter.unusedSimpArgs false
theorem elem33 : Try.prog.underlying 33 = some (.slice (Try.prog.elem 33)) := by
 have hel : Try.prog.elem 33 = 5 := by simp [Program.elem, Try.underlying33]
 rw [hel]; exact Try.underlying33
theorem size33 (W : World) : (sizeOf (Try.prog.elem 33)).run Try.prog W = .ok 1 W := by
 obtain ⟨i0, hi, hz0, hz1, hz2⟩ := info_parts info_u8
 have hel : Try.prog.elem 33 = 5 := by simp [Program.elem, Try.underlying33]
 rw [hel]
 simp [sizeOf, typeInfo, hi, hz1]
theorem add0 (A : Option Addr) (s : Nat) : (A.map fun x => x.add (0 * s)) = A := by
 cases A <;> simp [Addr.add]
theorem cut_h (A : Option Addr) (n c : Nat) (hi : Int) (h0 : 0 ≤ hi) (h2 : hi ≤ c) : ∀ W : World, (Instr.slice 33 (.slice A n c) none (some (.int .i64 hi)) none).run Try.prog W = .ok (.slice A hi.toNat c) W := by
 intro W
 rw [run_slice_h W 33 A n c elem33 .i64 hi h0 h2, size33]
 simp only [Result.andThen, sliced, add0, Nat.sub_zero, ite_self]
theorem cut_l (A : Option Addr) (n c : Nat) (lo : Int) (h0 : 0 ≤ lo) (h2 : lo ≤ n) : ∀ W : World, (Instr.slice 33 (.slice A n c) (some (.int .i64 lo)) none none).run Try.prog W = .ok (.slice (if c = lo.toNat then A else A.map (·.add (lo.toNat * 1))) (n - lo.toNat) (c - lo.toNat)) W := by
 intro W
 rw [run_slice_l W 33 A n c elem33 .i64 lo h0 h2, size33]
 simp only [Result.andThen, sliced]
def Rd (w0 : World) (gr : Nat) (bs : List Int) (ok : Bool) (wr : World) : Prop :=
 w0.heap.size ≤ gr ∧ Below w0.heap.size w0 wr ∧ ∃ A c, wr.heap[gr]? = some (.cells #[.slice A bs.length c, .bool ok] 81 (0, 0)) ∧ Kd.C (Kd.int .u8) w0 A bs.length bs ∧ bs.length ≤ c
theorem Rd.keep {w0 wr w' : World} {gr : Nat} {bs : List Int} {ok : Bool} (h : Rd w0 gr bs ok wr) (hb : Below w0.heap.size w0 w') (hk : w'.heap[gr]? = wr.heap[gr]?) : Rd w0 gr bs ok w' := by
 obtain ⟨h1, h2, A, c, h3, h4⟩ := h
 exact ⟨h1, hb, A, c, hk.trans h3, h4⟩
theorem kb_set (w : World) (g i : Nat) (v : Value) : KeepBut w (w.setCell ⟨g, i, none⟩ v) g none := by
 refine ⟨by rw [World.size_setCell]; exact Nat.le_refl _, fun k _ hk _ => heap_setO hk⟩
theorem kb_step {a b c : World} {g : Nat} (h : KeepBut a b g none) (k : KeepBut b c g none) : KeepBut a c g none :=
 ⟨Nat.le_trans h.1 k.1, fun i hi hg hn => (k.2 i (Nat.lt_of_lt_of_le hi h.1) hg hn).trans (h.2 i hi hg hn)⟩
theorem kb_refl (a : World) (g : Nat) : KeepBut a a g none := ⟨Nat.le_refl _, fun _ _ _ _ => rfl⟩
set_option maxHeartbeats 2000000 in
set_option maxRecDepth 100000 in
theorem take_c {w0 wr : World} {gr : Nat} {bs : List Int} {ok : Bool} (h : Rd w0 gr bs ok wr) (n : Nat) (hn : n ≤ bs.length) :
  Calls Try.prog 38 #[.pointer (some ⟨gr, 0, none⟩), .int .i64 (n : Int)] wr fun e w' => ∃ A c, e = .returned (.slice A n c) ∧ Kd.C (Kd.int .u8) w0 A n (bs.take n) ∧ n ≤ c ∧ Rd w0 gr (bs.drop n) ok w' ∧ KeepBut wr w' gr none := by
 obtain ⟨hg, hb, A, c, hblk, hC, hc⟩ := h
 have hc0 : wr.cell? ⟨gr, 0, none⟩ = some (.slice A bs.length c) := (blk_cell hblk 0).trans rfl
 have hf0 := blk_frozen hblk 0
 have ha := cut_h A bs.length c (n : Int) (by omega) (by omega)
 have hl := cut_l A bs.length c (n : Int) (by omega) (by omega)
 rw [Int.toNat_natCast] at ha hl
 obtain ⟨A2, hA2⟩ : ∃ A2, A2 = (if c = n then A else A.map (·.add (n * 1))) := ⟨_, rfl⟩
 have hD := Aside0.mk (Kd.C_drop hC hn hc)
 have hT := Aside0.mk (Kd.C_take hC hn)
 change Aside0 (Kd.C (Kd.int .u8) w0 (if c = n then A else A.map (·.add (n * 1))) _ _) at hD
 rw [← hA2] at hl hD
 rw [List.length_take, Nat.min_eq_left hn] at hT
 have HA := Aside0.mk (And.intro hg hb)
 have HBK := Aside0.mk hblk
 clear hC hg hb hA2 hblk
 go_enter Try.func38, Try.ntmps38
 go_wp2
 go_ret
 refine ⟨A, c, rfl, hT.out, by omega, ⟨HA.out.1, below_set HA.out.2 HA.out.1, A2, c - n, ?_, hD.out, by rw [List.length_drop]; omega⟩, kb_set _ _ _ _⟩
 rw [List.length_drop]
 exact blk_put HBK.out 0 _ rfl
def numU (m : Nat) (bs : List Int) : Int := Oct.sgn m (uval (bs.take m))
theorem int_u (bs : List Int) (m : Nat) (h1 : 1 ≤ m) (h2 : m ≤ 8) (hn : m ≤ bs.length) : PO.octets_Int.f (bs.take m) 0 m = some (numU m bs, true) := by
 unfold PO.octets_Int.f octets_Uint.f
 have hl : (bs.take m).length = m := by rw [List.length_take]; omega
 rw [if_pos (by rw [hl]; omega)]
 have e : (((bs.take m).take ((0 : Int).toNat + (m : Int).toNat)).drop (0 : Int).toNat) = bs.take m := by
  rw [show ((0 : Int).toNat + (m : Int).toNat) = m by omega, show (0 : Int).toNat = 0 from rfl, List.drop_zero, List.take_take, Nat.min_self]
 rw [e]
 simp only [Option.bind_some, if_true]
 rw [if_pos (by rw [w64 (n := 8 - (m : Int)) (by omega) (by omega), w64 (by omega) (by omega)]; omega)]
 rfl
set_option maxHeartbeats 2000000 in
set_option maxRecDepth 100000 in
theorem number_c {w0 wr : World} {gr : Nat} {bs : List Int} {ok : Bool} (h : Rd w0 gr bs ok wr) (n : Nat) (h1 : 1 ≤ n) (h2 : n ≤ 8) (hn : n ≤ bs.length) :
  Calls Try.prog 37 #[.pointer (some ⟨gr, 0, none⟩), .int .i64 (n : Int)] wr fun e w' => e = .returned (.int .i64 (numU n bs)) ∧ Rd w0 gr (bs.drop n) ok w' ∧ KeepBut wr w' gr none := by
 have HT := Aside0.mk (take_c h n hn)
 have HI := Aside0.mk (int_u bs n h1 h2 hn)
 have hl : (bs.take n).length = n := by rw [List.length_take]; omega
 have HL := Aside0.mk hl
 clear h hl
 go_enter Try.func37, Try.ntmps37
 go_wp2_with (first
  | (go_at_call 38; refine (HT.out).mono ?_; rintro e w1 ⟨A, c, rfl, hC, hc, hR, hK⟩; have HC := Aside0.mk (PO.octets_Int.calls A c (bs.take n) 0 (n : Int) (numU n bs) true w1 (by rw [HL.out]; exact Kd.C_below hC hR.2.1) (by rw [HL.out]; exact hc) HI.out); rw [HL.out] at HC; have HR := Aside0.mk hR; have HK := Aside0.mk hK; clear hC hc hR hK)
  | (go_at_call 53; refine (HC.out).mono ?_; rintro e w2 ⟨rfl, ⟨nd, rfl⟩⟩))
 all_goals
  go_ret
  exact ⟨rfl, HR.out.keep (below_step HR.out.2.1 (by repeat (first | exact Below.refl _ _ | apply pw_below_drewN))) rfl, HK.out⟩
theorem rd_cell {w w' : World} {A : Option Addr} {bs : List Int} (h : Kd.C (Kd.int .u8) w A 1 (bs.take 1)) (hb : Below w.heap.size w w') (hn : 1 ≤ bs.length) : ∃ ad, A = some ad ∧ w'.cell? ad = some (.int .u8 (rd bs 0)) := by
 obtain ⟨ad, e, hc⟩ := Kd.at_int h 0 (by omega) (by omega)
 refine ⟨ad, e, ?_⟩
 have h1 : rd (bs.take 1) 0 = rd bs 0 := by
  cases bs with
  | nil => simp at hn
  | cons x xs => rfl
 rw [h1] at hc
 have e0 : ad.add (0 : Int).toNat = ad := by simp [Addr.add]
 rw [e0] at hc
 exact (hb.cell (World.block_lt_of_cell? w _ hc)).trans hc
set_option maxHeartbeats 2000000 in
set_option maxRecDepth 100000 in
theorem truth_c {w0 wr : World} {gr : Nat} {bs : List Int} {ok : Bool} (h : Rd w0 gr bs ok wr) (hn : 1 ≤ bs.length) :
  Calls Try.prog 39 #[.pointer (some ⟨gr, 0, none⟩)] wr fun e w' => e = .returned (.bool (rd bs 0 == 1)) ∧ Rd w0 gr (bs.drop 1) (ok && decide (rd bs 0 < 2)) w' ∧ KeepBut wr w' gr none := by
 have HT := Aside0.mk (take_c h 1 hn)
 clear h
 have HN := Aside0.mk hn
 cases ok
 all_goals
  go_enter Try.func39, Try.ntmps39
  go_upto_region 2 with (go_at_call 38; refine (HT.out).mono ?_; rintro e w1 ⟨A, c, rfl, hC, hc, hR, hK⟩; obtain ⟨ad, rfl, hx0⟩ := rd_cell hC hR.2.1 HN.out; have HR := Aside0.mk hR; have HK := Aside0.mk hK; clear hC hc hR hK)
  obtain ⟨q1, q2, A2, c2, hblk, q3, q4⟩ := HR.out
  have hf1 := blk_frozen hblk 1
  have hc1 := (blk_cell hblk 1).trans rfl
  have HQ := Aside0.mk (And.intro q1 (And.intro q2 (And.intro q3 q4)))
  have HB := Aside0.mk hblk
  clear q1 q2 q3 q4 hblk HR hx0
  go_wp2
  go_ret
  obtain ⟨q1, q2, q3, q4⟩ := HQ.out
  exact ⟨rfl, ⟨q1, below_set q2 q1, A2, c2, blk_put HB.out 1 _ rfl, q3, q4⟩, kb_step HK.out (kb_set _ _ _ _)⟩
def allB (l : List Int) : Bool := l.all fun x => decide (x < 2)
def isOne (l : List Int) : List Bool := l.map fun x => x == 1
theorem takeN (bs : List Int) (k : Nat) (h : k < bs.length) : bs.take (k + 1) = bs.take k ++ [rd (bs.drop k) 0] := by
 rw [List.take_add_one, List.getElem?_eq_getElem h, List.drop_eq_getElem_cons h]
 rfl
set_option maxHeartbeats 2000000 in
set_option maxRecDepth 100000 in
theorem marks_c {w0 wb : World} {gr : Nat} {bs : List Int} {ok : Bool} (h : Rd w0 gr bs ok wb) (hgr : gr < wb.heap.size) (n : Nat) (hn : n ≤ bs.length) (hb : n ≤ 1000000) :
  Calls Try.prog 41 #[.pointer (some ⟨gr, 0, none⟩), .int .i64 (n : Int)] wb fun e w' => ∃ v, e = .returned v ∧ Kd.R Kd.bool 4 w' wb.heap.size (fun _ => True) v (isOne (bs.take n)) ∧ Rd w0 gr (bs.drop n) (ok && allB (bs.take n)) w' ∧ KeepBut wb w' gr none := by
 have HR := Aside0.mk h
 clear h
 go_enter Try.func41, Try.ntmps41
 go_wp2
 go_loopw [4, 6] (fun v i wQ => ∃ k : Nat, k ≤ n ∧ i = .int .i64 k ∧ Kd.R Kd.bool 4 wQ wb.heap.size (fun _ => True) v (isOne (bs.take k)) ∧ Rd w0 gr (bs.drop k) (ok && allB (bs.take k)) wQ ∧ KeepBut wb wQ gr none) (fun _ i _ => n - (intOf i).toNat)
 case atStart => exact ⟨0, Nat.zero_le _, rfl, Kd.R_nil _ _ _ _ _, by have := HR.out; simpa [allB] using this, kb_refl _ _⟩
 clear HR
 obtain ⟨k, hk, rfl, hO, hR, hK⟩ := hrel
 have HO := Aside0.mk hO
 have HR := Aside0.mk hR
 have HK := Aside0.mk hK
 clear hO hR hK
 by_cases hlt : k < n
 rotate_left
 ·
  have hkl : k = n := by omega
  subst hkl
  have cl : decide ((k : Int) < (k : Int)) = false := decide_eq_false (by omega)
  go_wp2
  go_ret
  exact ⟨_, rfl, Kd.R_mono HO.out (fun _ _ => trivial), HR.out, HK.out⟩
 have cl : decide ((k : Int) < (n : Int)) = true := decide_eq_true (by omega)
 have HT := Aside0.mk (truth_c HR.out (by rw [List.length_drop]; omega))
 clear HR
 go_wp2_with (first
  | (go_at_call 39; refine (HT.out).mono ?_; rintro e w1 ⟨rfl, hR1, hK1⟩; go_loud (have n0_ := Aside0.mk (Kd.R_keep (Kd.R_mono (Kd.R_bound HO.out) (ok' := fun k => wb.heap.size ≤ k) (fun _ hk => hk.2.1)) hK1 (fun j hj => by omega)); have n1_ := Aside0.mk (kb_step HK.out hK1); have HR := Aside0.mk hR1; clear HO HK hR1 hK1; have HO := n0_; have HK := n1_; clear n0_ n1_))
  | ((with_reducible refine gate_builtin (b := .append) (xs := #[.tmp 8, .tmp 11]) rfl ?_); at_builtin; refine Kd.R_append Kd.bool (w0 := w1) wb.heap.size rfl (.tmp 8) (.tmp 11) 25 4 (.bool false) 1 rfl Try.underlying25 PE.info4 rfl (by decide) (by omega) _ (isOne (bs.take k)) _ _ _ (fun _ => False) rfl rfl rfl (fun _ h => h.elim) (fun j hj => Nat.le_trans HK.out.1 hj) HO.out (Below.refl _ _) HK.out.1 (by unfold isOne; rw [List.length_map, List.length_take]; omega) ?_; intro v2 w2 ho hb hg hat; clear hg hat))
 go_roundw
 case rel =>
  have e := takeN bs k (by omega)
  have q := HR.out.1
  refine ⟨k + 1, by omega, by go_num, ?_, ?_, ⟨Nat.le_trans HK.out.1 hb.size, fun i hi hg hn => (hb.block i hi).trans (HK.out.2 i hi hg hn)⟩⟩
  ·
   rw [show isOne (bs.take (k + 1)) = isOne (bs.take k) ++ [rd (bs.drop k) 0 == 1] by rw [e]; simp [isOne]]
   exact Kd.R_mono ho (fun _ _ => trivial)
  have h := HR.out.keep (HR.out.2.1.trans ⟨hb.os, hb.tape, hb.output, hb.size, fun k hk => hb.block k (by omega)⟩) (hb.block gr hgr)
  rw [List.drop_drop, Bool.and_assoc] at h
  rw [show allB (bs.take (k + 1)) = (allB (bs.take k) && decide (rd (bs.drop k) 0 < 2)) by rw [e]; simp [allB]]
  exact h
 case measure => simp [intOf]; omega
end Go.Proofs.Ythobnoknbdljgaa.Hand
end
section
namespace Go.Proofs.Ythobnoknbdljgaa
open Go.RowKit Hand PB0 Go.Proofs.YthobnoknbdljgaaW.PrintWords
def rightP (v ut sd le ti ty ch : Int) : Prop := (1 ≤ v ∧ v ≤ 4) ∧ (1 ≤ ty ∧ ty ≤ 256) ∧ (1 ≤ ch ∧ ch ≤ 256) ∧ (0 ≤ ti ∧ ti ≤ 5000) ∧ (0 ≤ le ∧ le ≤ 5000) ∧ (ut = 0 ∨ ut = ty) ∧ (sd = 0 ∨ sd = ty)
instance (v ut sd le ti ty ch : Int) : Decidable (rightP v ut sd le ti ty ch) := by unfold rightP; infer_instance
theorem within_f (n a b : Int) : PB0.header_within.f n a b = some (decide (a ≤ n ∧ n ≤ b)) := by
 unfold PB0.header_within.f
 split
 ·
  rename_i h
  have h' : a ≤ n := h
  congr 1
  simp [h']
 ·
  rw [show decide (a ≤ n ∧ n ≤ b) = false from decide_eq_false (by omega)]
theorem hright_f (v ut sd le ti ty ch : Int) : PB0.header_Right.f v ut sd le ti ty ch = some (decide (rightP v ut sd le ti ty ch)) := by
 unfold PB0.header_Right.f
 simp only [within_f, Option.bind_some, decide_eq_true_eq]
 by_cases h : rightP v ut sd le ti ty ch
 ·
  rw [decide_eq_true h]
  obtain ⟨h1, h2, h3, h4, h5, h6, h7⟩ := h
  rw [if_pos h1, if_pos h2, if_pos h3, if_pos h4, if_pos h5]
  rcases h6 with h6 | h6 <;> rcases h7 with h7 | h7 <;> simp [h6, h7]
 ·
  rw [decide_eq_false h]
  by_cases h1 : 1 ≤ v ∧ v ≤ 4
  ·
   rw [if_pos h1]
   by_cases h2 : 1 ≤ ty ∧ ty ≤ 256
   ·
    rw [if_pos h2]
    by_cases h3 : 1 ≤ ch ∧ ch ≤ 256
    ·
     rw [if_pos h3]
     by_cases h4 : 0 ≤ ti ∧ ti ≤ 5000
     ·
      rw [if_pos h4]
      by_cases h5 : 0 ≤ le ∧ le ≤ 5000
      ·
       rw [if_pos h5]
       have h8 : ¬ ((ut = 0 ∨ ut = ty) ∧ (sd = 0 ∨ sd = ty)) := fun h9 => h ⟨h1, h2, h3, h4, h5, h9.1, h9.2⟩
       by_cases a1 : ut = 0 <;> by_cases a2 : ut = ty <;> by_cases a3 : sd = 0 <;> by_cases a4 : sd = ty <;> simp_all
      ·
       rw [if_neg h5]
     ·
      rw [if_neg h4]
    ·
     rw [if_neg h3]
   ·
    rw [if_neg h2]
  ·
   rw [if_neg h1]
def bodyN (m : Nat) (ut sd le ti ty ch : Nat) : Nat := (m + 1) * ti + 6 * ty + ch + (m + 4) * le + sd + ut
theorem body_i4 (v ut sd le ti ty ch : Int) (h1 : 0 ≤ ti ∧ ti ≤ 5000) (h2 : 0 ≤ le ∧ le ≤ 5000) (h3 : 1 ≤ ty ∧ ty ≤ 256) (h4 : 1 ≤ ch ∧ ch ≤ 256) (h5 : 0 ≤ ut ∧ ut ≤ 256) (h6 : 0 ≤ sd ∧ sd ≤ 256) :
  PB0.header_Body.f v ut sd le ti ty ch 4 = some (5 * ti + 6 * ty + ch + 8 * le + sd + ut) := by
 unfold PB0.header_Body.f wrap64
 congr 1
 omega
theorem body_4 (v : Int) (ut sd le ti ty ch : Nat) (h : rightP v ut sd le ti ty ch) : PB0.header_Body.f v ut sd le ti ty ch 4 = some ((bodyN 4 ut sd le ti ty ch : Nat) : Int) := by
 obtain ⟨h1, h2, h3, h4, h5, h6, h7⟩ := h
 rw [body_i4 v ut sd le ti ty ch h4 h5 h2 h3 (by omega) (by omega)]
 unfold bodyN
 refine congrArg some ?_
 omega
theorem body_i8 (v ut sd le ti ty ch : Int) (h1 : 0 ≤ ti ∧ ti ≤ 5000) (h2 : 0 ≤ le ∧ le ≤ 5000) (h3 : 1 ≤ ty ∧ ty ≤ 256) (h4 : 1 ≤ ch ∧ ch ≤ 256) (h5 : 0 ≤ ut ∧ ut ≤ 256) (h6 : 0 ≤ sd ∧ sd ≤ 256) :
  PB0.header_Body.f v ut sd le ti ty ch 8 = some (9 * ti + 6 * ty + ch + 12 * le + sd + ut) := by
 unfold PB0.header_Body.f wrap64
 congr 1
 omega
theorem body_8 (v : Int) (ut sd le ti ty ch : Nat) (h : rightP v ut sd le ti ty ch) : PB0.header_Body.f v ut sd le ti ty ch 8 = some ((bodyN 8 ut sd le ti ty ch : Nat) : Int) := by
 obtain ⟨h1, h2, h3, h4, h5, h6, h7⟩ := h
 rw [body_i8 v ut sd le ti ty ch h4 h5 h2 h3 (by omega) (by omega)]
 unfold bodyN
 refine congrArg some ?_
 omega
def nameI (l0 : List Int) (a1 : Int) : ByteArray × Bool :=
 if a1 < 0 then (ByteArray.empty, false) else if a1 > l0.length then (ByteArray.empty, false) else
  if Lib.indexByte (Lib.bytesOf (l0.drop a1.toNat)) 0 < 0 then (ByteArray.empty, false) else (strOfNums ((l0.drop a1.toNat).take (Lib.indexByte (Lib.bytesOf (l0.drop a1.toNat)) 0).toNat), true)
theorem name_f (l0 : List Int) (a1 : Int) : octets_Name.f l0 a1 = some ((nameI l0 a1).1, (nameI l0 a1).2) := by
 unfold octets_Name.f nameI
 repeat' split
 all_goals rfl
def jump0 (m : Nat) (bs : List Int) (i : Nat) : S54 := ⟨numU m (bs.drop (m * i)), 0⟩
def jump1 (m ti : Nat) (bs : List Int) (i : Nat) : S54 := ⟨numU m (bs.drop (m * i)), wrap64 (rd (bs.drop (m * ti + i)) 0)⟩
def kind0 (o : Nat) (bs : List Int) (i : Nat) : S56 := ⟨numU 4 (bs.drop (o + 6 * i)), rd (bs.drop (o + 6 * i + 4)) 0 == 1, ⟨#[]⟩⟩
def kat (o : Nat) (bs : List Int) (i : Nat) : Int := wrap64 (rd (bs.drop (o + 6 * i + 5)) 0)
def ktrue (o : Nat) (bs : List Int) (i : Nat) : Bool := decide (rd (bs.drop (o + 6 * i + 4)) 0 < 2)
def kind1 (o : Nat) (ns bs : List Int) (i : Nat) : S56 := ⟨numU 4 (bs.drop (o + 6 * i)), rd (bs.drop (o + 6 * i + 4)) 0 == 1, (nameI ns (kat o bs i)).1⟩
def kname (o : Nat) (ns bs : List Int) (i : Nat) : Bool := (nameI ns (kat o bs i)).2
def leap1 (m o : Nat) (bs : List Int) (i : Nat) : S67 := ⟨numU m (bs.drop (o + (m + 4) * i)), numU 4 (bs.drop (o + (m + 4) * i + m))⟩
def o1 (m ti : Nat) : Nat := (m + 1) * ti
def o2 (m ti ty : Nat) : Nat := o1 m ti + 6 * ty
def o3 (m ti ty ch : Nat) : Nat := o2 m ti ty + ch
def o4 (m le ti ty ch : Nat) : Nat := o3 m ti ty ch + (m + 4) * le
def o5 (m sd le ti ty ch : Nat) : Nat := o4 m le ti ty ch + sd
def dNs (m ti ty ch : Nat) (bs : List Int) : List Int := (bs.drop (o2 m ti ty)).take ch
def dJ (m ti : Nat) (bs : List Int) : List S54 := (List.range ti).map (jump1 m ti bs)
def dK (m ti ty ch : Nat) (bs : List Int) : List S56 := (List.range ty).map (kind1 (o1 m ti) (dNs m ti ty ch bs) bs)
def dL (m le ti ty ch : Nat) (bs : List Int) : List S67 := (List.range le).map (leap1 m (o3 m ti ty ch) bs)
def dS (m sd le ti ty ch : Nat) (bs : List Int) : List Int := (bs.drop (o4 m le ti ty ch)).take sd
def dU (m ut sd le ti ty ch : Nat) (bs : List Int) : List Int := (bs.drop (o5 m sd le ti ty ch)).take ut
def dOK (m ut sd le ti ty ch : Nat) (bs : List Int) : Bool :=
 (((List.range ty).all (ktrue (o1 m ti) bs) && (List.range ty).all (kname (o1 m ti) (dNs m ti ty ch bs) bs)) && allB (dS m sd le ti ty ch bs)) && allB (dU m ut sd le ti ty ch bs)
def dRight (m : Nat) (v : Int) (ut sd le ti ty ch : Nat) (bs : List Int) : Bool :=
 rightB m v (dK m ti ty ch bs) (dJ m ti bs) (dL m le ti ty ch bs) (isOne (dS m sd le ti ty ch bs)) (isOne (dU m ut sd le ti ty ch bs))
def block_Decode.f (l0 : List Int) (v ut sd le ti ty ch : Int) (a2 : Int) : Option (List S56 × List S54 × List S67 × List Bool × List Bool × Int) :=
 if (a2 = 4 ∨ a2 = 8) ∧ rightP v ut sd le ti ty ch then
  (if l0.length < bodyN a2.toNat ut.toNat sd.toNat le.toNat ti.toNat ty.toNat ch.toNat then some ([], [], [], [], [], 5) else
   (if dOK a2.toNat ut.toNat sd.toNat le.toNat ti.toNat ty.toNat ch.toNat (l0.take (bodyN a2.toNat ut.toNat sd.toNat le.toNat ti.toNat ty.toNat ch.toNat)) = true ∧ dRight a2.toNat v ut.toNat sd.toNat le.toNat ti.toNat ty.toNat ch.toNat (l0.take (bodyN a2.toNat ut.toNat sd.toNat le.toNat ti.toNat ty.toNat ch.toNat)) = true then
    some (dK a2.toNat ti.toNat ty.toNat ch.toNat (l0.take (bodyN a2.toNat ut.toNat sd.toNat le.toNat ti.toNat ty.toNat ch.toNat)), dJ a2.toNat ti.toNat (l0.take (bodyN a2.toNat ut.toNat sd.toNat le.toNat ti.toNat ty.toNat ch.toNat)), dL a2.toNat le.toNat ti.toNat ty.toNat ch.toNat (l0.take (bodyN a2.toNat ut.toNat sd.toNat le.toNat ti.toNat ty.toNat ch.toNat)), isOne (dS a2.toNat sd.toNat le.toNat ti.toNat ty.toNat ch.toNat (l0.take (bodyN a2.toNat ut.toNat sd.toNat le.toNat ti.toNat ty.toNat ch.toNat))), isOne (dU a2.toNat ut.toNat sd.toNat le.toNat ti.toNat ty.toNat ch.toNat (l0.take (bodyN a2.toNat ut.toNat sd.toNat le.toNat ti.toNat ty.toNat ch.toNat))), 0)
   else some ([], [], [], [], [], 4)))
 else some ([], [], [], [], [], 1)
def jl (m ti : Nat) (bs : List Int) (k : Nat) : List S54 := (List.range ti).map fun i => if i < k then jump1 m ti bs i else jump0 m bs i
def kl (o ty : Nat) (ns bs : List Int) (k : Nat) : List S56 := (List.range ty).map fun i => if i < k then kind1 o ns bs i else kind0 o bs i
theorem jl_zero (m ti : Nat) (bs : List Int) : jl m ti bs 0 = (List.range ti).map (jump0 m bs) := by simp [jl]
theorem kl_zero (o ty : Nat) (ns bs : List Int) : kl o ty ns bs 0 = (List.range ty).map (kind0 o bs) := by simp [kl]
theorem jl_all (m ti : Nat) (bs : List Int) : jl m ti bs ti = dJ m ti bs := by
 unfold jl dJ
 apply List.map_congr_left
 intro i hi
 rw [if_pos (List.mem_range.1 hi)]
theorem kl_all (o ty : Nat) (ns bs : List Int) : kl o ty ns bs ty = (List.range ty).map (kind1 o ns bs) := by
 unfold kl
 apply List.map_congr_left
 intro i hi
 rw [if_pos (List.mem_range.1 hi)]
theorem jl_len (m ti : Nat) (bs : List Int) (k : Nat) : (jl m ti bs k).length = ti := by simp [jl]
theorem kl_len (o ty : Nat) (ns bs : List Int) (k : Nat) : (kl o ty ns bs k).length = ty := by simp [kl]
theorem jl_set (m ti : Nat) (bs : List Int) (k : Nat) (h : k < ti) : (jl m ti bs k).set k ⟨(rd_T54 (jl m ti bs k) (k : Int)).f0, wrap64 (rd (bs.drop (m * ti + k)) 0)⟩ = jl m ti bs (k + 1) := by
 rw [rd54 _ k (by rw [jl_len]; exact h)]
 apply List.ext_getElem
 ·
  rw [List.length_set, jl_len, jl_len]
 ·
  intro i h1 h2
  rw [jl_len] at h2
  by_cases e : k = i
  ·
   subst e
   rw [List.getElem_set_self]
   simp only [jl, List.getElem_map, List.getElem_range]
   rw [if_neg (Nat.lt_irrefl _), if_pos (Nat.lt_succ_self _)]
   rfl
  ·
   rw [List.getElem_set_ne e]
   simp only [jl, List.getElem_map, List.getElem_range]
   by_cases l : i < k
   ·
    rw [if_pos l, if_pos (by omega)]
   ·
    rw [if_neg l, if_neg (by omega)]
theorem kl_set (o ty : Nat) (ns bs : List Int) (k : Nat) (h : k < ty) : (kl o ty ns bs k).set k ⟨(rd_T56 (kl o ty ns bs k) (k : Int)).f0, (rd_T56 (kl o ty ns bs k) (k : Int)).f1, (nameI ns (kat o bs k)).1⟩ = kl o ty ns bs (k + 1) := by
 rw [rd56 _ k (by rw [kl_len]; exact h)]
 apply List.ext_getElem
 ·
  rw [List.length_set, kl_len, kl_len]
 ·
  intro i h1 h2
  rw [kl_len] at h2
  by_cases e : k = i
  ·
   subst e
   rw [List.getElem_set_self]
   simp only [kl, List.getElem_map, List.getElem_range]
   rw [if_neg (Nat.lt_irrefl _), if_pos (Nat.lt_succ_self _)]
   rfl
  ·
   rw [List.getElem_set_ne e]
   simp only [kl, List.getElem_map, List.getElem_range]
   by_cases l : i < k
   ·
    rw [if_pos l, if_pos (by omega)]
   ·
    rw [if_neg l, if_neg (by omega)]
theorem map_snoc {α : Type} (f : Nat → α) (k : Nat) : (List.range (k + 1)).map f = (List.range k).map f ++ [f k] := by
 rw [List.range_succ, List.map_append]
 rfl
theorem all_snoc (f : Nat → Bool) (k : Nat) : (List.range (k + 1)).all f = ((List.range k).all f && f k) := by
 rw [List.range_succ, List.all_append]
 simp
theorem rdm (f : Nat → Int) (n k : Nat) (h : k < n) : rd ((List.range n).map f) (k : Int) = f k := by
 unfold rd
 rw [Int.toNat_natCast, List.getD_eq_getElem?_getD, List.getElem?_eq_getElem (by simp; exact h)]
 simp
theorem nameI_size (ns : List Int) (a : Int) : (nameI ns a).1.size ≤ ns.length := by
 unfold nameI
 split
 ·
  exact Nat.zero_le _
 ·
  split
  ·
   exact Nat.zero_le _
  ·
   split
   ·
    exact Nat.zero_le _
   ·
    dsimp only
    unfold strOfNums
    simp only [ByteArray.size, Array.size, List.length_map, List.length_take, List.length_drop]
    omega
theorem nmSum_le (c : Nat) : ∀ l : List ByteArray, (∀ s ∈ l, s.size ≤ c) → nmSum l ≤ l.length * (c + 1) := by
 intro l
 induction l with
 | nil => intro _; simp [nmSum]
 | cons x l ih =>
  intro h
  have h1 := h x (List.mem_cons_self ..)
  have h2 := ih (fun s hs => h s (List.mem_cons_of_mem _ hs))
  rw [List.length_cons, Nat.succ_mul]
  simp only [nmSum, List.map_cons, List.sum_cons] at *
  omega
end Go.Proofs.Ythobnoknbdljgaa
namespace Go.Proofs.Ythobnoknbdljgaa.Hand
open Go.RowKit PB0 Go.Proofs.YthobnoknbdljgaaW.PrintWords
theorem rd_drew {w0 wr : World} {gr : Nat} {bs : List Int} {ok : Bool} (h : Rd w0 gr bs ok wr) : Rd w0 gr bs ok wr.drew := h.keep (below_drew1 h.2.1) rfl
theorem number_8 {w0 wr : World} {gr : Nat} {bs : List Int} {ok : Bool} (h : Rd w0 gr bs ok wr) (hn : 8 ≤ bs.length) :
  Calls Try.prog 37 #[.pointer (some ⟨gr, 0, none⟩), .int .i64 8] wr fun e w' => e = .returned (.int .i64 (numU 8 bs)) ∧ Rd w0 gr (bs.drop 8) ok w' ∧ KeepBut wr w' gr none := number_c h 8 (by omega) (by omega) hn
theorem number_4 {w0 wr : World} {gr : Nat} {bs : List Int} {ok : Bool} (h : Rd w0 gr bs ok wr) (hn : 4 ≤ bs.length) :
  Calls Try.prog 37 #[.pointer (some ⟨gr, 0, none⟩), .int .i64 4] wr fun e w' => e = .returned (.int .i64 (numU 4 bs)) ∧ Rd w0 gr (bs.drop 4) ok w' ∧ KeepBut wr w' gr none := number_c h 4 (by omega) (by omega) hn
theorem take_1 {w0 wr : World} {gr : Nat} {bs : List Int} {ok : Bool} (h : Rd w0 gr bs ok wr) (hn : 1 ≤ bs.length) :
  Calls Try.prog 38 #[.pointer (some ⟨gr, 0, none⟩), .int .i64 1] wr fun e w' => ∃ ad c, e = .returned (.slice (some ad) 1 c) ∧ w'.cell? ad = some (.int .u8 (rd bs 0)) ∧ Rd w0 gr (bs.drop 1) ok w' ∧ KeepBut wr w' gr none := by
 refine (take_c h 1 hn).mono ?_
 rintro e w1 ⟨A, c, rfl, hC, hc, hR, hK⟩
 obtain ⟨ad, rfl, hx0⟩ := rd_cell hC hR.2.1 hn
 exact ⟨ad, c, rfl, hx0, hR, hK⟩
theorem blk_kb {w w' : World} {g gr : Nat} {o : Obj} (h : w.heap[g]? = some o) (hk : KeepBut w w' gr none) (hne : g ≠ gr) : w'.heap[g]? = some o := (hk.2 g (blk_lt h) hne (by simp)).trans h
theorem R_kb {α : Type} {d : Kd α} {e : Nat} {w0 w w' : World} {base gr : Nat} {okk : Nat → Prop} {v : Value} {xs : List α} {bs : List Int} {ok : Bool} (h : d.R e w base okk v xs) (hR : Rd w0 gr bs ok w) (ht : ∀ q, q ∈ e :: d.E → q ≠ 81) (hk : KeepBut w w' gr none) : d.R e w' base okk v xs := by
 obtain ⟨h1, h2, A, c, h3, h4⟩ := hR
 exact Kd.R_mono (Kd.R_keep (Kd.R_types h h3 ht) hk (fun j hj => hj.2)) (fun _ hk => hk.1)
theorem R_setb {α : Type} {d : Kd α} {e : Nat} {w : World} {base g t : Nat} {cells : Array Value} {v : Value} {xs : List α} (h : d.R e w base (fun _ => True) v xs) (hb : w.heap[g]? = some (.cells cells t (0, 0))) (ht : ∀ q, q ∈ e :: d.E → q ≠ t) (i : Nat) (u : Value) : d.R e (w.setCell ⟨g, i, none⟩ u) base (fun _ => True) v xs :=
 Kd.R_mono (Kd.R_step (Kd.R_types h hb ht) (fun _ hk _ => heap_setO hk.2)) (fun _ _ => trivial)
theorem rd_set {w0 wr : World} {gr g : Nat} {bs : List Int} {ok : Bool} (h : Rd w0 gr bs ok wr) (hne : g ≠ gr) (hg : w0.heap.size ≤ g) (i : Nat) (u : Value) : Rd w0 gr bs ok (wr.setCell ⟨g, i, none⟩ u) :=
 h.keep (below_set h.2.1 hg) (heap_setO (Ne.symm hne))
theorem rd_grown {α : Type} {d : Kd α} {e base : Nat} {okk : Nat → Prop} {v : Value} {xs : List α} {w0 wr w' : World} {gr : Nat} {bs : List Int} {ok : Bool} (h : Rd w0 gr bs ok wr) (hO : d.R e wr base okk v xs) (hne : e ≠ 81) (hb : Below w0.heap.size wr w') (hg : wr.grownBy w' v.ownBlock) : Rd w0 gr bs ok w' := by
 obtain ⟨h1, h2, A, c, h3, h4⟩ := h
 exact ⟨h1, h2.trans hb, A, c, blk_grown h3 hg (Kd.R_ne hO h3 hne), h4⟩
theorem jump_put {e base g n cap : Nat} {W : World} {xs : List S54} (h : k54.R e W base (fun _ => True) (.slice (some ⟨g, 0, none⟩) n cap) xs) (i : Nat) (hi : i < n) (x : Int) :
  k54.R e (W.setCell ⟨g, i * 2 + 1, none⟩ (.int .i64 x)) base (fun _ => True) (.slice (some ⟨g, 0, none⟩) n cap) (xs.set i ⟨(rd_T54 xs (i : Int)).f0, x⟩) ∧ W.grownBy (W.setCell ⟨g, i * 2 + 1, none⟩ (.int .i64 x)) (some g) ∧ (∃ u, W.cell? ⟨g, i * 2 + 1, none⟩ = some (.int .i64 u)) ∧ W.frozen? ⟨g, i * 2 + 1, none⟩ = false := by
 obtain ⟨c, hcl, hM, hcc, hf⟩ := Kd.R_elem h z54 (i : Int) (by omega) (by omega)
 have hc := k54_openM hM
 rw [Int.toNat_natCast] at hcc hf
 have hs : k54.sz = 2 := rfl
 rw [hs] at hcc hf
 subst hc
 have hq := Kd.R_seg h (i : Int) (by omega) (by omega) (seg := [.int .i64 x]) (j := 1) (okp := fun k => k ≠ g) (x' := ⟨(rd_T54 xs (i : Int)).f0, x⟩) hcl (fun j u hu => by rw [Int.toNat_natCast, hs]; exact hcc j u hu) (by rw [hs]; exact Nat.le_refl _) (k54_mkM _ _ _ ⟨(rd_T54 xs (i : Int)).f0, x⟩) (fun k hk => ⟨trivial, hk⟩)
 rw [Int.toNat_natCast, hs] at hq
 exact ⟨hq.1, hq.2, ⟨_, hcc 1 _ rfl⟩, hf 1⟩
theorem kind_put {e base g n cap : Nat} {W : World} {xs : List S56} (h : k56.R e W base (fun _ => True) (.slice (some ⟨g, 0, none⟩) n cap) xs) (i : Nat) (hi : i < n) (x : ByteArray) :
  k56.R e (W.setCell ⟨g, i * 3 + 2, none⟩ (.string x)) base (fun _ => True) (.slice (some ⟨g, 0, none⟩) n cap) (xs.set i ⟨(rd_T56 xs (i : Int)).f0, (rd_T56 xs (i : Int)).f1, x⟩) ∧ W.grownBy (W.setCell ⟨g, i * 3 + 2, none⟩ (.string x)) (some g) ∧ (∃ u, W.cell? ⟨g, i * 3 + 2, none⟩ = some (.string u)) ∧ W.frozen? ⟨g, i * 3 + 2, none⟩ = false := by
 obtain ⟨c, hcl, hM, hcc, hf⟩ := Kd.R_elem h z56 (i : Int) (by omega) (by omega)
 have hc := k56_openM hM
 rw [Int.toNat_natCast] at hcc hf
 have hs : k56.sz = 3 := rfl
 rw [hs] at hcc hf
 subst hc
 have hq := Kd.R_seg h (i : Int) (by omega) (by omega) (seg := [.string x]) (j := 2) (okp := fun k => k ≠ g) (x' := ⟨(rd_T56 xs (i : Int)).f0, (rd_T56 xs (i : Int)).f1, x⟩) hcl (fun j u hu => by rw [Int.toNat_natCast, hs]; exact hcc j u hu) (by rw [hs]; exact Nat.le_refl _) (k56_mkM _ _ _ ⟨(rd_T56 xs (i : Int)).f0, (rd_T56 xs (i : Int)).f1, x⟩) (fun k hk => ⟨trivial, hk⟩)
 rw [Int.toNat_natCast, hs] at hq
 exact ⟨hq.1, hq.2, ⟨_, hcc 2 _ rfl⟩, hf 2⟩
theorem rd_grow {w0 wr w' : World} {gr g t : Nat} {bs : List Int} {ok : Bool} {cells : Array Value} (h : Rd w0 gr bs ok wr) (hg : wr.grownBy w' (some g)) (hb : wr.heap[g]? = some (.cells cells t (0, 0))) (ht : t ≠ 81) (hge : w0.heap.size ≤ g) : Rd w0 gr bs ok w' := by
 obtain ⟨h1, h2, A, c, h3, h4⟩ := h
 have hne : gr ≠ g := by
  intro e
  subst e
  rw [h3] at hb
  injection hb with hb
  injection hb with _ hb
  exact ht hb.symm
 refine ⟨h1, h2.trans ⟨hg.os, hg.tape, hg.output, hg.size, fun k hk => hg.block k (Nat.lt_of_lt_of_le hk h2.size) (by intro e; injection e; omega)⟩, A, c, blk_grown h3 hg (by intro e; injection e with e; exact hne e), h4⟩
theorem info_jump : (Try.prog.info? 54).map (fun i => (i.zero, i.size, i.bytes)) = some (some (.agg #[.int .i64 0, .int .i64 0]), 2, 16) := by kernel_rfl
theorem info_kind : (Try.prog.info? 56).map (fun i => (i.zero, i.size, i.bytes)) = some (some (.agg #[.int .i64 0, .bool false, .string ⟨#[]⟩]), 3, 32) := by kernel_rfl
theorem info_leap : (Try.prog.info? 67).map (fun i => (i.zero, i.size, i.bytes)) = some (some (.agg #[.int .i64 0, .int .i64 0]), 2, 16) := by kernel_rfl
theorem info_int : (Try.prog.info? 3).map (fun i => (i.zero, i.size, i.bytes)) = some (some (.int .i64 0), 1, 8) := by kernel_rfl
end Go.Proofs.Ythobnoknbdljgaa.Hand
end
section
namespace Go.Proofs.Ythobnoknbdljgaa.Hand
open Go
section
variable {P : Program} {ops : Array Oper} {Q : Exit → Act → World → Prop} {md : Region.Mode} {S : World → Prop} {z : Nat}
def wpZ (P : Program) (md : Region.Mode) (ops : Array Oper) (Q : Exit → Act → World → Prop) (S : World → Prop) (z : Nat) : Nat → Array Bool → Act → World → Prop
 | 0, ls, a, w => Region.ready md ops ls = [] ∧ Q .normal a w
 | n + 1, ls, a, w => (Region.ready md ops ls = [] → Q .normal a w) ∧ ∀ i ∈ Region.ready md ops ls, wpOp P ops Q i (fun a' w' => (i ≠ z → S w') ∧ wpZ P md ops Q S z n (ls.setIfInBounds i true) a' w') a w
theorem any_of_Z (n : Nat) : ∀ (ls : Array Bool) (a : Act) (w : World), wpZ P md ops Q S z n ls a w → wpAny P md ops Q n ls a w := by
 induction n with
 | zero => exact fun _ _ _ h => h
 | succ n ih => exact fun ls a w h => ⟨h.1, fun i hi => wpOp_mono (fun a' w' k => ih _ a' w' k.2) (h.2 i hi)⟩
def zwaits (md : Region.Mode) (ops : Array Oper) (z i : Nat) : Bool := match ops[z]? with
 | some o => o.after.any fun e => Region.binds md e && e.on == i
 | none => true
theorem not_ready {i : Nat} {ls : Array Bool} (hw : zwaits md ops z i = true) (hi : ls.getD i true = false) : z ∉ Region.ready md ops ls := by
 intro hz
 obtain ⟨_, o, ho, hall⟩ := mem_ready.1 hz
 unfold zwaits at hw
 rw [ho] at hw
 dsimp only at hw
 obtain ⟨j, hj, hb⟩ := Array.any_eq_true.1 hw
 rw [Bool.and_eq_true, beq_iff_eq] at hb
 have h := hall _ (Array.getElem_mem hj) hb.1
 rw [hb.2] at h
 rcases Nat.lt_or_ge i ls.size with h' | h'
 ·
  simp [h'] at hi h
  rw [hi] at h
  cases h
 ·
  simp [Array.getElem?_eq_none h'] at h
theorem wpZ_first {i : Nat} {oi : Oper} {v : Value} (hi : ops[i]? = some oi) (hs : Region.noSelect ops = true) (hw : zwaits md ops z i = true) (hQ : ∀ c a w, Q (.panic c) (a.put oi.dst v) w → Q (.panic c) a w) (n : Nat) :
  ∀ (ls : Array Bool) (a : Act) (w : World), (∀ j oj, ops[j]? = some oj → j ≠ i → ls.getD j true = false → (∀ e ∈ oj.after, Region.binds md e = true → e.on ≠ i) → oi.apart ops oj = true) →
   i ∈ Region.ready md ops ls → YieldsIf P ops S oi v a → S w → wpZ P md ops Q S z n (ls.setIfInBounds i true) (a.put oi.dst v) w → wpZ P md ops Q S z (n + 1) ls a w := by
 have sel := Region.noSelect_spec hs
 induction n with
 | zero =>
  intro ls a w _ hr hy hS H
  refine ⟨fun h => (by rw [h] at hr; cases hr), fun j hj => ?_⟩
  by_cases e : j = i
  ·
   subst e
   exact hy.wpOp hi hS ⟨fun _ => hS, H⟩
  ·
   have := ready_mono hj e
   rw [H.1] at this
   cases this
 | succ n ih =>
  intro ls a w hf hr hy hS H
  have hu := (mem_ready.1 hr).1
  refine ⟨fun h => (by rw [h] at hr; cases hr), fun j hj => ?_⟩
  by_cases e : j = i
  ·
   subst e
   exact hy.wpOp hi hS ⟨fun _ => hS, H⟩
  ·
   have hjz : j ≠ z := fun ez => not_ready hw hu (ez ▸ hj)
   have h1 := H.2 j (ready_mono hj e)
   obtain ⟨hjun, oj, hoj, hall⟩ := mem_ready.1 hj
   have hno : ∀ d ∈ oj.after, Region.binds md d = true → d.on ≠ i := fun d hd hb hq => by
    have k1 := hall d hd hb
    rw [hq] at k1
    rcases Nat.lt_or_ge i ls.size with h' | h'
    ·
     simp [h'] at hu k1
     rw [hu] at k1
     cases k1
    ·
     simp [Array.getElem?_eq_none h'] at k1
   have h2 := wpOp_putIf hoj (hf j oj hoj e hjun hno) (fun cs b => sel i oi cs b hi) (fun cs b => sel j oj cs b hoj) hQ hy h1
   refine wpOp_mono (fun a' w' h3 => ⟨h3.2.1, ih (ls.setIfInBounds j true) a' w' ?_ (ready_mono hr (Ne.symm e)) h3.1 (h3.2.1 hjz) ?_⟩) h2
   ·
    intro k ok hk hki hun hn
    refine hf k ok hk hki ?_ hn
    by_cases hjk : j = k
    ·
     subst hjk; exact hjun
    ·
     rw [getD_set_ne true hjk] at hun; exact hun
   ·
    rw [Array.setIfInBounds_comm _ _ e]
    exact h3.2.2
theorem wpZ_take {i : Nat} {oi : Oper} {v : Value} {n : Nat} {ls : Array Bool} {a : Act} {w : World} (hi : ops[i]? = some oi) (hs : Region.noSelect ops = true) (hw : zwaits md ops z i = true)
  (hf : Region.free md ops ls i = true) (hr : (Region.ready md ops ls).contains i = true) (hQ : ∀ c a w, Q (.panic c) (a.put oi.dst v) w → Q (.panic c) a w) (hy : YieldsIf P ops S oi v a) (hS : S w)
  (h : wpZ P md ops Q S z n (ls.setIfInBounds i true) (a.put oi.dst v) w) : wpZ P md ops Q S z (n + 1) ls a w :=
 wpZ_first hi hs hw hQ n ls a w (Region.free_spec hi hf) (by simpa using hr) hy hS h
theorem wpZ_one {i : Nat} {o : Oper} {n : Nat} {ls : Array Bool} {a : Act} {w : World} (hr : Region.ready md ops ls = [i]) (ho : ops[i]? = some o)
  (h : ∀ K : Act → World → Prop, Shut (∀ a w, (i ≠ z → S w) → wpZ P md ops Q S z n (ls.setIfInBounds i true) a w → K a w) → if Region.wanted o (yielded ops a.tmps) = true then Oper.wp P o a w K Q else K (a.put o.dst undef) w) :
  wpZ P md ops Q S z (n + 1) ls a w := by
 refine ⟨fun h0 => (by rw [h0] at hr; cases hr), fun j hj => ?_⟩
 rw [hr] at hj
 obtain rfl := List.mem_singleton.1 hj
 exact wpOp_step ho (fun K' hK => h K' (fun a w hS hW => hK a w ⟨hS, hW⟩))
theorem wpZ_done {ls : Array Bool} {a : Act} {w : World} (hr : Region.ready md ops ls = []) (h : Q .normal a w) : ∀ n, wpZ P md ops Q S z n ls a w
 | 0 => ⟨hr, h⟩
 | _ + 1 => ⟨fun _ => h, by rw [hr]; simp⟩
theorem region_Z {id : Nat} {a : Act} {w : World} (z : Nat) (S : World → Prop) (hm : P.follows .mixedOrders = true) (h : wpZ P .any ops Q S z ops.size (Array.replicate ops.size false) a w.drew) : (Code.region id ops true).wp P Q a w :=
 wp_region_any hm (any_of_Z _ _ _ _ h)
theorem zt {oi : Oper} {v : Value} {n : Nat} {ls : Array Bool} {a a' : Act} {w : World} (i : Nat) (hS : S w) (h : wpZ P md ops Q S z n (ls.setIfInBounds i true) a' w) (hi : ops[i]? = some oi := by rfl) (hs : Region.noSelect ops = true := by kernel_rfl) (hw : zwaits md ops z i = true := by kernel_rfl)
  (hf : Region.free md ops ls i = true := by kernel_rfl) (hr : (Region.ready md ops ls).contains i = true := by kernel_rfl) (hQ : ∀ c a w, Q (.panic c) (a.put oi.dst v) w → Q (.panic c) a w := by exact fun _ _ _ h => h) (hy1 : Region.wanted oi (yielded ops a.tmps) = true := by rfl)
  (hy2 : ∀ w, S w → (execOp a.eval oi).run P w = .ok (.value v) w := by intro w_ hSw; (try dsimp only at hSw); go_simp; try (with_reducible rfl))
  (ha : a.put oi.dst v = a' := by first | (simp only [Act.put, List.getElem_toArray, List.getElem_cons_succ, List.getElem_cons_zero, List.setIfInBounds_toArray, List.set_cons_zero, List.set_cons_succ]; rfl) | rfl) : wpZ P md ops Q S z (n + 1) ls a w := by
 subst ha
 exact wpZ_take hi hs hw hf hr hQ (Or.inl ⟨hy1, hy2⟩) hS h
end
end Go.Proofs.Ythobnoknbdljgaa.Hand
end
section
namespace Go.Proofs.Ythobnoknbdljgaa.Hand
open Go.RowKit PB0 Go.Proofs.YthobnoknbdljgaaW.PrintWords
section
variable {w w0 : World} {g g' : Nat} {t : TypeId} {c0 c1 c2 c3 c4 v0 v1 v2 v3 v4 : Value}
theorem put5_at (h : w.heap[g]? = some (.cells #[c0, c1, c2, c3, c4] t (0, 0))) :
  (((((w.setCell ⟨g, 0, none⟩ v0).setCell ⟨g, 1, none⟩ v1).setCell ⟨g, 2, none⟩ v2).setCell ⟨g, 3, none⟩ v3).setCell ⟨g, 4, none⟩ v4).heap[g]? = some (.cells #[v0, v1, v2, v3, v4] t (0, 0)) := by
 have h1 := blk_put (cs' := #[v0, c1, c2, c3, c4]) h 0 v0 rfl
 have h2 := blk_put (cs' := #[v0, v1, c2, c3, c4]) h1 1 v1 rfl
 have h3 := blk_put (cs' := #[v0, v1, v2, c3, c4]) h2 2 v2 rfl
 have h4 := blk_put (cs' := #[v0, v1, v2, v3, c4]) h3 3 v3 rfl
 exact blk_put (cs' := #[v0, v1, v2, v3, v4]) h4 4 v4 rfl
theorem put5_far {cs : Array Value} (h : w.heap[g']? = some (.cells cs t (0, 0))) (hn : g' ≠ g) :
  (((((w.setCell ⟨g, 0, none⟩ v0).setCell ⟨g, 1, none⟩ v1).setCell ⟨g, 2, none⟩ v2).setCell ⟨g, 3, none⟩ v3).setCell ⟨g, 4, none⟩ v4).heap[g']? = some (.cells cs t (0, 0)) :=
 blk_far (blk_far (blk_far (blk_far (blk_far h hn v0) hn v1) hn v2) hn v3) hn v4
theorem put5_below (h : Below w0.heap.size w0 w) (hg : w0.heap.size ≤ g) :
  Below w0.heap.size w0 (((((w.setCell ⟨g, 0, none⟩ v0).setCell ⟨g, 1, none⟩ v1).setCell ⟨g, 2, none⟩ v2).setCell ⟨g, 3, none⟩ v3).setCell ⟨g, 4, none⟩ v4) :=
 below_set (below_set (below_set (below_set (below_set h hg) hg) hg) hg) hg
theorem put5_R {α : Type} {d : Kd α} {e base : Nat} {ok : Nat → Prop} {v : Value} {xs : List α} {cs : Array Value} (h : d.R e w base ok v xs) (hb : w.heap[g]? = some (.cells cs t (0, 0))) (ht : ∀ q, q ∈ e :: d.E → q ≠ t) :
  d.R e (((((w.setCell ⟨g, 0, none⟩ v0).setCell ⟨g, 1, none⟩ v1).setCell ⟨g, 2, none⟩ v2).setCell ⟨g, 3, none⟩ v3).setCell ⟨g, 4, none⟩ v4) base ok v xs := by
 refine Kd.R_mono (Kd.R_step (Kd.R_types h hb ht) (fun k hk _ => ?_)) (fun _ hk => hk.1)
 rw [heap_setO hk.2, heap_setO hk.2, heap_setO hk.2, heap_setO hk.2, heap_setO hk.2]
end
theorem isOne_len (l : List Int) : (isOne l).length = l.length := List.length_map _
theorem dK_names (m ti ty ch : Nat) (bs : List Int) (hch : ch ≤ 256) (hty : ty ≤ 256) : nmSum (names (dK m ti ty ch bs)) ≤ 1000000 := by
 have h1 : (names (dK m ti ty ch bs)).length = ty := by simp [names, dK]
 have h2 := nmSum_le 256 (names (dK m ti ty ch bs)) (by
  intro s hs
  simp only [names, dK, List.map_map, List.mem_map, Function.comp] at hs
  obtain ⟨i, _, rfl⟩ := hs
  have h3 := nameI_size (dNs m ti ty ch bs) (kat (o1 m ti) bs i)
  have h4 : (dNs m ti ty ch bs).length ≤ ch := by unfold dNs; rw [List.length_take]; omega
  show (nameI (dNs m ti ty ch bs) (kat (o1 m ti) bs i)).1.size ≤ 256
  omega)
 rw [h1] at h2
 have h5 : ty * (256 + 1) ≤ 256 * 257 := Nat.mul_le_mul hty (Nat.le_refl _)
 omega
theorem encOK_d (m ut sd le ti ty ch : Nat) (bs : List Int) (h : ti ≤ 5000 ∧ le ≤ 5000 ∧ ty ≤ 256 ∧ ch ≤ 256 ∧ ut ≤ 256 ∧ sd ≤ 256) :
  encOK (dK m ti ty ch bs) (dJ m ti bs) (dL m le ti ty ch bs) (isOne (dS m sd le ti ty ch bs)) (isOne (dU m ut sd le ti ty ch bs)) := by
 obtain ⟨h1, h2, h3, h4, h5, h6⟩ := h
 refine ⟨?_, dK_names m ti ty ch bs h4 h3, ?_, ?_, ?_, ?_⟩
 ·
  simp [dK]; omega
 ·
  simp [dJ]; omega
 ·
  simp [dL]; omega
 ·
  rw [isOne_len]; unfold dS; rw [List.length_take]; omega
 ·
  rw [isOne_len]; unfold dU; rw [List.length_take]; omega
end Go.Proofs.Ythobnoknbdljgaa.Hand
end
section
namespace Go.Proofs.Ythobnoknbdljgaa.Hand
open Go.RowKit Go.Proofs.YthobnoknbdljgaaW.PrintWords Go.Proofs.YthobnoknbdljgaaW.PrintLast Go.Proofs.YthobnoknbdljgaaW.PrintMore PB0
set_option linter.unusedVariables false
set_option linter.unusedSimpArgs false
set_option maxHeartbeats 8000000 in
set_option maxRecDepth 100000 in
theorem decode4_walk (A0 : Option Addr) (c0 : Nat) (l0 : List Int) (v : Int) (ut sd le ti ty ch : Nat) (w : World) (hr0 : Kd.C (Kd.int .u8) w A0 l0.length l0) (hc0 : l0.length ≤ c0) (hp : rightP v ut sd le ti ty ch) (hl : bodyN 4 ut sd le ti ty ch ≤ l0.length) :
  Calls Try.prog 21 #[.slice A0 l0.length c0, .agg #[.int .i64 v, .int .i64 ut, .int .i64 sd, .int .i64 le, .int .i64 ti, .int .i64 ty, .int .i64 ch], .int .i64 4] w fun e w' => ∃ v0_ v1_ v2_ v3_ v4_ : Value, ∃ (r1 : List S56) (r2 : List S54) (r3 : List S67) (r4 r5 : List Bool) (r6 : Int), block_Decode.f l0 v ut sd le ti ty ch 4 = some (r1, r2, r3, r4, r5, r6) ∧ e = .returned (.tuple #[.agg #[v0_, v1_, v2_, v3_, v4_], .int .i64 r6]) ∧ Kd.R k56 56 w' w.heap.size (fun _ => True) v0_ r1 ∧ Kd.R k54 54 w' w.heap.size (fun _ => True) v1_ r2 ∧ Kd.R k67 67 w' w.heap.size (fun _ => True) v2_ r3 ∧ Kd.R Kd.bool 4 w' w.heap.size (fun k_ => some k_ ≠ (v4_ : Value).ownBlock) v3_ r4 ∧ Kd.R Kd.bool 4 w' w.heap.size (fun k_ => some k_ ≠ (v3_ : Value).ownBlock) v4_ r5 ∧ Below w.heap.size w w' := by
 have hu27 := Try.underlying27
 have hu35 := Try.underlying35
 have hu81 := Try.underlying81
 have HB := Aside0.mk (Below.refl w.heap.size w)
 have HP := Aside0.mk (show PB0.header_Right.f v ut sd le ti ty ch = some true by rw [hright_f, decide_eq_true hp])
 have HBO := Aside0.mk (body_4 v ut sd le ti ty ch hp)
 have hbd : ti ≤ 5000 ∧ le ≤ 5000 ∧ ty ≤ 256 ∧ ch ≤ 256 ∧ ut ≤ 256 ∧ sd ≤ 256 := by
  obtain ⟨h1, h2, h3, h4, h5, h6, h7⟩ := hp
  omega
 obtain ⟨nB, hnB⟩ : ∃ x, x = bodyN 4 ut sd le ti ty ch := ⟨_, rfl⟩
 rw [← hnB] at hl HBO
 obtain ⟨bs, hbs⟩ : ∃ x, x = l0.take nB := ⟨_, rfl⟩
 have hbl : bs.length = nB := by rw [hbs, List.length_take]; omega
 have HC := Aside0.mk (show Kd.C (Kd.int .u8) w A0 bs.length bs by rw [hbs]; exact Kd.C_take hr0 hl)
 have HF := Aside0.mk (show ∀ (p q : Bool), dOK 4 ut sd le ti ty ch bs = p → dRight 4 v ut sd le ti ty ch bs = q → block_Decode.f l0 v ut sd le ti ty ch 4 = if p = true ∧ q = true then some (dK 4 ti ty ch bs, dJ 4 ti bs, dL 4 le ti ty ch bs, isOne (dS 4 sd le ti ty ch bs), isOne (dU 4 ut sd le ti ty ch bs), 0) else some ([], [], [], [], [], 4) from by
  intro p q e1 e2
  unfold block_Decode.f
  rw [if_pos ⟨by decide, hp⟩]
  simp only [Int.toNat_natCast, show ((4 : Int)).toNat = 4 from rfl]
  rw [← hnB, if_neg (by omega), ← hbs, e1, e2])
 have HN := Aside0.mk hnB
 have HL := Aside0.mk hbl
 have ha := cut_h A0 l0.length c0 (nB : Int) (by omega) (by omega)
 rw [Int.toNat_natCast] at ha
 have HQ := Aside0.mk (show nB ≤ c0 by omega)
 have hlt0 : decide ((l0.length : Int) < (nB : Int)) = false := decide_eq_false (by omega)
 have hlt1 : decide (l0.length < nB) = false := decide_eq_false (by omega)
 clear hnB hbs hbl hr0 hc0 hp hl
 go_enter Try.func21, Try.ntmps21
 go_upto_region 7 with (first
  | ((with_reducible refine gate_dst (N := 4) rfl ?_); refine box_event ?hg (N := 4) ?hd (cs := #[.int .i64 v, .int .i64 ut, .int .i64 sd, .int .i64 le, .int .i64 ti, .int .i64 ty, .int .i64 ch]) (t := 35) ?hr ?_; (case hd => rfl); (case hg => rfl); (case hr => first | (go_simp; done) | (go_simp; rfl)); intro g4 hg w1 hbox hb; have Bg4 := Aside0.mk hbox; have GEg4 := Aside0.mk (show w.heap.size ≤ g4 by first | omega | (have h_ := below_size HB.out; omega)); clear hbox hg; have n0_ := Aside0.mk (below_step HB.out hb); clear HB; have HB := n0_; clear n0_ hb; obtain ⟨s0, s1, s2, s3, s4, s5, s6⟩ := Sq.c7 Bg4)
  | ((with_reducible refine gate_dst (N := 6) rfl ?_); refine box_event ?hg (N := 6) ?hd (cs := #[.slice none 0 0, .slice none 0 0, .slice none 0 0, .slice none 0 0, .slice none 0 0]) (t := 27) ?hr ?_; (case hd => rfl); (case hg => rfl); (case hr => first | (go_simp; done) | (go_simp; rfl)); intro g6 hg w2 hbox hb; have Bg6 := Aside0.mk hbox; have GEg6 := Aside0.mk (show w.heap.size ≤ g6 by first | omega | (have h_ := below_size HB.out; omega)); have NE46 := Aside0.mk (show g4 ≠ g6 by have := blk_lt Bg4.out; omega); clear hbox hg; have n0_ := Aside0.mk (blk_below Bg4.out hb); have n1_ := Aside0.mk (below_step HB.out hb); clear Bg4 HB; have Bg4 := n0_; have HB := n1_; clear n0_ n1_ hb; obtain ⟨t0, t1, t2, t3, t4, t5, t6⟩ := Sq.c7 Bg4)
  | (go_at_call 19; (with_reducible refine (PB0.header_Right.calls v ut sd le ti ty ch true _ HP.out).mono ?_); rintro e w3 ⟨rfl, hb⟩; have n0_ := Aside0.mk (blk_below Bg4.out hb); have n1_ := Aside0.mk (blk_below Bg6.out hb); have n2_ := Aside0.mk (below_step HB.out hb); clear Bg4 Bg6 HB; have Bg4 := n0_; have Bg6 := n1_; have HB := n2_; clear n0_ n1_ n2_ hb; obtain ⟨x0, x1, x2, x3, x4, x5, x6⟩ := Sq.c7 Bg4)
  | (go_at_call 20; (with_reducible refine (PB0.header_Body.calls v ut sd le ti ty ch 4 (nB : Int) _ HBO.out).mono ?_); rintro e w4 ⟨rfl, hb⟩; have n0_ := Aside0.mk (blk_below Bg4.out hb); have n1_ := Aside0.mk (blk_below Bg6.out hb); have n2_ := Aside0.mk (below_step HB.out hb); clear Bg4 Bg6 HB; have Bg4 := n0_; have Bg6 := n1_; have HB := n2_; clear n0_ n1_ n2_ hb; obtain ⟨y0, y1, y2, y3, y4, y5, y6⟩ := Sq.c7 Bg4)
  | ((with_reducible refine gate_dst (N := 40) rfl ?_); refine box_event ?hg (N := 40) ?hd (cs := #[.slice A0 nB c0, .bool true]) (t := 81) ?hr ?_; (case hd => rfl); (case hg => rfl); (case hr => first | (go_simp; done) | (go_simp; rfl)); intro gr hg w5 hbox hb; have Bgr := Aside0.mk hbox; have GEgr := Aside0.mk (show w.heap.size ≤ gr by first | omega | (have h_ := below_size HB.out; omega)); have NE6r := Aside0.mk (show g6 ≠ gr by have := blk_lt Bg6.out; omega); have NE4r := Aside0.mk (show g4 ≠ gr by have := blk_lt Bg4.out; omega); clear hbox hg; have n0_ := Aside0.mk (blk_below Bg4.out hb); have n1_ := Aside0.mk (blk_below Bg6.out hb); have n2_ := Aside0.mk (below_step HB.out hb); clear Bg4 Bg6 HB; have Bg4 := n0_; have Bg6 := n1_; have HB := n2_; clear n0_ n1_ n2_ hb))
 refine forget_wp (fun wc => Aside0 (wc.heap[g4]? = some (.cells #[.int .i64 v, .int .i64 ut, .int .i64 sd, .int .i64 le, .int .i64 ti, .int .i64 ty, .int .i64 ch] 35 (0, 0))) ∧ Aside0 (wc.heap[g6]? = some (.cells #[.slice none 0 0, .slice none 0 0, .slice none 0 0, .slice none 0 0, .slice none 0 0] 27 (0, 0))) ∧ Aside0 (Rd w gr (bs.drop (4 * 0)) true wc) ∧ Aside0 (gr < wc.heap.size)) ⟨Bg4, Bg6, ⟨GEgr.out, HB.out, A0, c0, by rw [Nat.mul_zero, List.drop_zero, HL.out]; exact Bgr.out, by rw [Nat.mul_zero, List.drop_zero]; exact HC.out, by rw [Nat.mul_zero, List.drop_zero, HL.out]; exact HQ.out⟩, ⟨blk_lt Bgr.out⟩⟩ ?_
 clear Bg4 Bg6 Bgr HB ha hlt0 hlt1 HC HQ HP HBO
 try clear s0 s1 s2 s3 s4 s5 s6
 try clear t0 t1 t2 t3 t4 t5 t6
 try clear x0 x1 x2 x3 x4 x5 x6
 try clear y0 y1 y2 y3 y4 y5 y6
 rintro w6 ⟨B4, B6, HR, LTr⟩
 have h4 : w6.cell? ⟨g4, 4, none⟩ = some (.int .i64 ti) := (blk_cell B4.out 4).trans rfl
 go_wp2
 go_loopw [43] (fun i wr => ∃ (k : Nat) (v1 : Value), k ≤ ti ∧ i = .int .i64 k ∧ Kd.R k54 54 wr w.heap.size (fun _ => True) v1 ((List.range k).map (jump0 4 bs)) ∧ Aside0 (wr.heap[g4]? = some (.cells #[.int .i64 v, .int .i64 ut, .int .i64 sd, .int .i64 le, .int .i64 ti, .int .i64 ty, .int .i64 ch] 35 (0, 0))) ∧ Aside0 (wr.heap[g6]? = some (.cells #[.slice none 0 0, v1, .slice none 0 0, .slice none 0 0, .slice none 0 0] 27 (0, 0))) ∧ Aside0 (Rd w gr (bs.drop (4 * k)) true wr) ∧ Aside0 (gr < wr.heap.size)) (fun i _ => ti - (intOf i).toNat)
 case atStart => exact ⟨0, _, Nat.zero_le _, rfl, Kd.R_nil _ _ _ _ _, B4, B6, HR, LTr⟩
 clear B4 B6 HR LTr h4
 obtain ⟨k, v1, hk, rfl, hO, B4, B6, HR, LTr⟩ := hrel
 have HO := Aside0.mk hO
 clear hO
 by_cases hlt : k < ti
 ·
  have cl : decide ((k : Int) < (ti : Int)) = true := decide_eq_true (by omega)
  have HE := Aside0.mk (show 4 ≤ (bs.drop (4 * k)).length from (by have h1_ := HN.out; have h2_ := HL.out; rw [List.length_drop]; simp only [bodyN, o1, o2, o3, o4, o5] at h1_ ⊢; omega))
  go_upto_region 9 with fail
  refine region_Z 9 (fun w' => w'.cell? ⟨g6, 1, none⟩ = some v1) (by kernel_rfl) ?_
  refine zt 0 ((blk_cell B6.out 1).trans rfl) ?_; refine zt 1 ((blk_cell B6.out 1).trans rfl) ?_; refine zt 2 ((blk_cell B6.out 1).trans rfl) ?_; refine zt 3 ((blk_cell B6.out 1).trans rfl) ?_
  (refine wpZ_one (i := 4) (by kernel_rfl) rfl (fun K_ hK_ => ?_); go_simp; go_wp2_with (first | (go_at_call 37; (with_reducible refine (number_4 (rd_drew HR.out) HE.out).mono ?_); rintro e w7 ⟨rfl, hR1, hK1⟩; have n0_ := Aside0.mk (blk_kb (blk_drew B4.out) hK1 NE4r.out); have n1_ := Aside0.mk (blk_kb (blk_drew B6.out) hK1 NE6r.out); have n2_ := Aside0.mk (R_kb (Kd.R_drew HO.out) (rd_drew HR.out) (by decide) hK1); have n3_ := Aside0.mk (Nat.lt_of_lt_of_le LTr.out hK1.1); have n4_ := Aside0.mk hR1; clear B4 B6 HO LTr HR hR1 hK1; have B4 := n0_; have B6 := n1_; have HO := n2_; have LTr := n3_; have HR := n4_; clear n0_ n1_ n2_ n3_ n4_)); refine hK_.out _ _ (fun _ => (blk_cell B6.out 1).trans rfl) ?_; clear hK_ K_; (try simp only [Act.put, List.setIfInBounds_toArray, List.set_cons_zero, List.set_cons_succ]))
  refine zt 5 ((blk_cell B6.out 1).trans rfl) ?_
  (refine wpZ_one (i := 6) (by kernel_rfl) rfl (fun K_ hK_ => ?_); go_simp; refine hK_.out _ _ (fun _ => (blk_cell (blk_alloc B6.out _) 1).trans rfl) ?_; clear hK_ K_; (try simp only [Act.put, List.setIfInBounds_toArray, List.set_cons_zero, List.set_cons_succ]))
  (refine wpZ_one (i := 7) (by kernel_rfl) rfl (fun K_ hK_ => ?_); refine Kd.R_append_step k54 (w0 := w7) w.heap.size rfl (.tmp 46) (.tmp 51) 23 54 (.agg #[.int .i64 0, .int .i64 0]) 16 rfl Try.underlying23 info_jump rfl (by decide) (by omega) v1 ((List.range k).map (jump0 4 bs)) (jump0 4 bs k) [.int .i64 (numU 4 (bs.drop (4 * k))), .int .i64 0] (fun _ => True) (fun _ => False) rfl rfl (k54_mkM _ _ _ (jump0 4 bs k)) (fun _ h => h.elim) (fun _ _ => trivial) HO.out (Below.refl _ _) (Nat.le_of_lt (Nat.lt_of_le_of_lt HR.out.1 LTr.out)) (by simp only [List.length_map, List.length_range]; omega) ?_; intro v7 w8 ho hb hg hat; have n0_ := Aside0.mk (blk_grown B4.out hg (Kd.R_ne HO.out B4.out (by decide))); have n1_ := Aside0.mk (blk_grown B6.out hg (Kd.R_ne HO.out B6.out (by decide))); have n2_ := Aside0.mk (Nat.lt_of_lt_of_le LTr.out hg.size); have n3_ := Aside0.mk (rd_grown HR.out HO.out (by decide) hb hg); have n4_ := Aside0.mk ho; clear B4 B6 LTr HR HO ho hb hg hat; have B4 := n0_; have B6 := n1_; have LTr := n2_; have HR := n3_; have HO := n4_; clear n0_ n1_ n2_ n3_ n4_; refine hK_.out _ _ (fun _ => (blk_cell B6.out 1).trans rfl) ?_; clear hK_ K_; (try simp only [Act.put, List.setIfInBounds_toArray, List.set_cons_zero, List.set_cons_succ]))
  obtain ⟨A7, c7, rfl⟩ := Kd.R_slice HO.out
  refine zt 8 ((blk_cell B6.out 1).trans rfl) ?_
  have z1 : w8.cell? ⟨g6, 1, none⟩ = some v1 := (blk_cell B6.out 1).trans rfl
  have z2 := blk_frozen B6.out 1
  (refine wpZ_one (i := 9) (by kernel_rfl) rfl (fun K_ hK_ => ?_); go_simp; refine hK_.out _ _ (fun h => absurd rfl h) ?_; clear hK_ K_; (try simp only [Act.put, List.setIfInBounds_toArray, List.set_cons_zero, List.set_cons_succ]))
  refine wpZ_done (by kernel_rfl) ?_ _
  clear z1 z2
  go_wp2
  go_roundw
  case rel =>
   refine ⟨k + 1, _, by omega, by go_num, ?_, ⟨blk_far B4.out NE46.out _⟩, ⟨blk_put B6.out 1 _ rfl⟩, ⟨?_⟩, ⟨by rw [World.size_setCell]; exact LTr.out⟩⟩
   ·
    rw [map_snoc]
    have h := Kd.R_set HO.out B6.out (by decide) 1
    first | exact h _ | (simp only [List.length_append, List.length_map, List.length_range, List.length_cons, List.length_nil] at h ⊢; exact h _)
   have h := rd_set HR.out NE6r.out GEg6.out 1
   rw [List.drop_drop] at h
   exact h _
  case measure => simp [intOf]; omega
 have hkt : ti = k := by omega
 subst hkt
 have cl : decide ((ti : Int) < (ti : Int)) = false := decide_eq_false (by omega)
 obtain ⟨A1, c1, rfl⟩ := Kd.R_slice HO.out
 have hl1 : ((List.range ti).map (jump0 4 bs)).length = ti := by simp
 rw [hl1] at HO B6
 rw [← jl_zero] at HO
 clear hl1 hlt hk
 have h1 : wr.cell? ⟨g6, 1, none⟩ = some (.slice A1 ti c1) := (blk_cell B6.out 1).trans rfl
 go_wp2
 go_loopw [58] (fun i wr => ∃ (k : Nat), k ≤ ti ∧ i = .int .i64 k ∧ Kd.R k54 54 wr w.heap.size (fun _ => True) (.slice A1 ti c1) (jl 4 ti bs k) ∧ Aside0 (wr.heap[g4]? = some (.cells #[.int .i64 v, .int .i64 ut, .int .i64 sd, .int .i64 le, .int .i64 ti, .int .i64 ty, .int .i64 ch] 35 (0, 0))) ∧ Aside0 (wr.heap[g6]? = some (.cells #[.slice none 0 0, .slice A1 ti c1, .slice none 0 0, .slice none 0 0, .slice none 0 0] 27 (0, 0))) ∧ Aside0 (Rd w gr (bs.drop (4 * ti + k)) true wr) ∧ Aside0 (gr < wr.heap.size)) (fun i _ => ti - (intOf i).toNat)
 case atStart => exact ⟨0, Nat.zero_le _, rfl, HO.out, B4, B6, HR, LTr⟩
 clear B4 B6 HR LTr h1 HO cl
 obtain ⟨k, hk, rfl, hO, B4, B6, HR, LTr⟩ := hrel
 have HO := Aside0.mk hO
 clear hO
 by_cases hlt : k < ti
 ·
  have cl : decide ((k : Int) < (ti : Int)) = true := decide_eq_true (by omega)
  have ck0 : decide (0 ≤ (k : Int)) = true := decide_eq_true (by omega)
  have HE := Aside0.mk (show 1 ≤ (bs.drop (4 * ti + k)).length from (by have h1_ := HN.out; have h2_ := HL.out; rw [List.length_drop]; simp only [bodyN, o1, o2, o3, o4, o5] at h1_ ⊢; omega))
  obtain ⟨g, cap, hv, _, hg0, cells, hcells⟩ := Kd.R_form HO.out (by rw [jl_len]; omega)
  rw [jl_len] at hv
  injection hv with e1 _ e3
  subst e1
  subst e3
  go_upto_region 14 with fail
  refine region_Z 99 (fun w' => w'.cell? ⟨g6, 1, none⟩ = some (.slice (some ⟨g, 0, none⟩) ti c1)) (by kernel_rfl) ?_
  refine zt 0 ((blk_cell B6.out 1).trans rfl) ?_; refine zt 1 ((blk_cell B6.out 1).trans rfl) ?_; refine zt 2 ((blk_cell B6.out 1).trans rfl) ?_; refine zt 3 ((blk_cell B6.out 1).trans rfl) ?_
  (refine wpZ_one (i := 4) (by kernel_rfl) rfl (fun K_ hK_ => ?_); go_simp; go_wp2_with (first | (go_at_call 38; (with_reducible refine (take_1 (rd_drew HR.out) HE.out).mono ?_); rintro e w7 ⟨ad, c7, rfl, hx0, hR1, hK1⟩; have n0_ := Aside0.mk (blk_kb (blk_drew B4.out) hK1 NE4r.out); have n1_ := Aside0.mk (blk_kb (blk_drew B6.out) hK1 NE6r.out); have n2_ := Aside0.mk (R_kb (Kd.R_drew HO.out) (rd_drew HR.out) (by decide) hK1); have n3_ := Aside0.mk (Nat.lt_of_lt_of_le LTr.out hK1.1); have n4_ := Aside0.mk hR1; clear B4 B6 HO LTr HR hR1 hK1; have B4 := n0_; have B6 := n1_; have HO := n2_; have LTr := n3_; have HR := n4_; clear n0_ n1_ n2_ n3_ n4_)); refine hK_.out _ _ (fun _ => (blk_cell B6.out 1).trans rfl) ?_; clear hK_ K_; (try simp only [Act.put, List.setIfInBounds_toArray, List.set_cons_zero, List.set_cons_succ]))
  (refine wpZ_one (i := 5) (by kernel_rfl) rfl (fun K_ hK_ => ?_); go_simp; refine hK_.out _ _ (fun _ => (blk_cell B6.out 1).trans rfl) ?_; clear hK_ K_; (try simp only [Act.put, List.setIfInBounds_toArray, List.set_cons_zero, List.set_cons_succ]))
  (refine wpZ_one (i := 6) (by kernel_rfl) rfl (fun K_ hK_ => ?_); go_simp; refine hK_.out _ _ (fun _ => (blk_cell B6.out 1).trans rfl) ?_; clear hK_ K_; (try simp only [Act.put, List.setIfInBounds_toArray, List.set_cons_zero, List.set_cons_succ]))
  (refine wpZ_one (i := 7) (by kernel_rfl) rfl (fun K_ hK_ => ?_); go_simp; refine hK_.out _ _ (fun _ => (blk_cell B6.out 1).trans rfl) ?_; clear hK_ K_; (try simp only [Act.put, List.setIfInBounds_toArray, List.set_cons_zero, List.set_cons_succ]))
  obtain ⟨HS1, HS2, ⟨u0, hz1⟩, hz2⟩ := jump_put HO.out k hlt (wrap64 (rd (bs.drop (4 * ti + k)) 0))
  have HS := Aside0.mk HS1
  have HG := Aside0.mk HS2
  clear HS1 HS2
  (refine wpZ_one (i := 8) (by kernel_rfl) rfl (fun K_ hK_ => ?_); go_simp; refine hK_.out _ _ (fun _ => (blk_cell B6.out 1).trans rfl) ?_; clear hK_ K_; (try simp only [Act.put, List.setIfInBounds_toArray, List.set_cons_zero, List.set_cons_succ]))
  (refine wpZ_one (i := 9) (by kernel_rfl) rfl (fun K_ hK_ => ?_); go_simp; refine hK_.out _ _ (fun _ => (blk_cell B6.out 1).trans rfl) ?_; clear hK_ K_; (try simp only [Act.put, List.setIfInBounds_toArray, List.set_cons_zero, List.set_cons_succ]))
  have hn6 : g6 ≠ g := fun e => Kd.R_ne HO.out B6.out (by decide) (by rw [e]; simp [Value.ownBlock])
  have hn4 : g4 ≠ g := fun e => Kd.R_ne HO.out B4.out (by decide) (by rw [e]; simp [Value.ownBlock])
  obtain ⟨cells7, hcells7⟩ := Kd.R_typed HO.out g (by simp [Value.ownBlock])
  have hge := Kd.R_base HO.out g (by simp [Value.ownBlock])
  have HC7 := Aside0.mk (And.intro hcells7 hge)
  clear hcells7 hge
  (refine wpZ_one (i := 10) (by kernel_rfl) rfl (fun K_ hK_ => ?_); go_simp; refine hK_.out _ _ (fun _ => (blk_cell (blk_far B6.out hn6 _) 1).trans rfl) ?_; clear hK_ K_; (try simp only [Act.put, List.setIfInBounds_toArray, List.set_cons_zero, List.set_cons_succ]))
  refine wpZ_done (by kernel_rfl) ?_ _
  clear hz1 hz2 hx0
  go_wp2
  go_roundw
  case rel =>
   refine ⟨k + 1, by omega, by go_num, ?_, ⟨blk_far B4.out hn4 _⟩, ⟨blk_far B6.out hn6 _⟩, ⟨?_⟩, ⟨by rw [World.size_setCell]; exact LTr.out⟩⟩
   ·
    rw [← jl_set 4 ti bs k hlt]
    exact HS.out
   have h := rd_grow HR.out HG.out HC7.out.1 (by decide) HC7.out.2
   rw [List.drop_drop, Nat.add_assoc] at h
   exact h
  case measure => simp [intOf]; omega
 have hkt : ti = k := by omega
 subst hkt
 have cl : decide ((ti : Int) < (ti : Int)) = false := decide_eq_false (by omega)
 rw [jl_all] at HO
 obtain ⟨v1, hv1⟩ : ∃ x, x = Value.slice A1 ti c1 := ⟨_, rfl⟩
 rw [← hv1] at HO B6
 clear hv1 hlt hk
 have hoff : 4 * ti + ti = o1 4 ti + 6 * 0 := by unfold o1; omega
 rw [hoff] at HR
 clear hoff
 have h5 : wr.cell? ⟨g4, 5, none⟩ = some (.int .i64 ty) := (blk_cell B4.out 5).trans rfl
 have HJ := HO
 clear HO
 go_wp2
 go_loopw [11, 74] (fun va i wr => ∃ (k : Nat) (v0 : Value), k ≤ ty ∧ i = .int .i64 k ∧ Kd.R k56 56 wr w.heap.size (fun _ => True) v0 ((List.range k).map (kind0 (o1 4 ti) bs)) ∧ Aside0 (Kd.R (Kd.int .i64) 3 wr w.heap.size (fun _ => True) va ((List.range k).map (kat (o1 4 ti) bs))) ∧ Aside0 (Kd.R k54 54 wr w.heap.size (fun _ => True) v1 (dJ 4 ti bs)) ∧ Aside0 (wr.heap[g4]? = some (.cells #[.int .i64 v, .int .i64 ut, .int .i64 sd, .int .i64 le, .int .i64 ti, .int .i64 ty, .int .i64 ch] 35 (0, 0))) ∧ Aside0 (wr.heap[g6]? = some (.cells #[v0, v1, .slice none 0 0, .slice none 0 0, .slice none 0 0] 27 (0, 0))) ∧ Aside0 (Rd w gr (bs.drop (o1 4 ti + 6 * k)) ((List.range k).all (ktrue (o1 4 ti) bs)) wr) ∧ Aside0 (gr < wr.heap.size)) (fun _ i _ => ty - (intOf i).toNat)
 case atStart => exact ⟨0, _, Nat.zero_le _, rfl, Kd.R_nil _ _ _ _ _, ⟨Kd.R_nil _ _ _ _ _⟩, HJ, B4, B6, HR, LTr⟩
 clear B4 B6 HR LTr h5 HJ cl
 obtain ⟨k, v0, hk, rfl, hO, HT, HJ, B4, B6, HR, LTr⟩ := hrel
 have HO := Aside0.mk hO
 clear hO
 by_cases hlt : k < ty
 ·
  have cl : decide ((k : Int) < (ty : Int)) = true := decide_eq_true (by omega)
  have HE := Aside0.mk (show 4 ≤ (bs.drop (o1 4 ti + 6 * k)).length from (by have h1_ := HN.out; have h2_ := HL.out; rw [List.length_drop]; simp only [bodyN, o1, o2, o3, o4, o5] at h1_ ⊢; omega))
  have HE2 := Aside0.mk (show 1 ≤ ((bs.drop (o1 4 ti + 6 * k)).drop 4).length from by rw [List.drop_drop]; exact (by have h1_ := HN.out; have h2_ := HL.out; rw [List.length_drop]; simp only [bodyN, o1, o2, o3, o4, o5] at h1_ ⊢; omega))
  go_upto_region 19 with fail
  refine region_Z 10 (fun w' => w'.cell? ⟨g6, 0, none⟩ = some v0) (by kernel_rfl) ?_
  refine zt 0 ((blk_cell B6.out 0).trans rfl) ?_; refine zt 1 ((blk_cell B6.out 0).trans rfl) ?_; refine zt 2 ((blk_cell B6.out 0).trans rfl) ?_; refine zt 4 ((blk_cell B6.out 0).trans rfl) ?_
  (refine wpZ_one (i := 3) (by kernel_rfl) rfl (fun K_ hK_ => ?_); go_simp; go_wp2_with (first | (go_at_call 37; (with_reducible refine (number_4 (rd_drew HR.out) HE.out).mono ?_); rintro e w7 ⟨rfl, hR1, hK1⟩; have n0_ := Aside0.mk (blk_kb (blk_drew B4.out) hK1 NE4r.out); have n1_ := Aside0.mk (blk_kb (blk_drew B6.out) hK1 NE6r.out); have n2_ := Aside0.mk (R_kb (Kd.R_drew HO.out) (rd_drew HR.out) (by decide) hK1); have n3_ := Aside0.mk (R_kb (Kd.R_drew HJ.out) (rd_drew HR.out) (by decide) hK1); have n4_ := Aside0.mk (R_kb (Kd.R_drew HT.out) (rd_drew HR.out) (by decide) hK1); have n5_ := Aside0.mk (Nat.lt_of_lt_of_le LTr.out hK1.1); have n6_ := Aside0.mk hR1; clear B4 B6 HO HJ HT LTr HR hR1 hK1; have B4 := n0_; have B6 := n1_; have HO := n2_; have HJ := n3_; have HT := n4_; have LTr := n5_; have HR := n6_; clear n0_ n1_ n2_ n3_ n4_ n5_ n6_)); refine hK_.out _ _ (fun _ => (blk_cell B6.out 0).trans rfl) ?_; clear hK_ K_; (try simp only [Act.put, List.setIfInBounds_toArray, List.set_cons_zero, List.set_cons_succ]))
  (refine wpZ_one (i := 5) (by kernel_rfl) rfl (fun K_ hK_ => ?_); go_simp; go_wp2_with (first | (go_at_call 39; (with_reducible refine (truth_c HR.out HE2.out).mono ?_); rintro e w8 ⟨rfl, hR1, hK1⟩; have n0_ := Aside0.mk (blk_kb (B4.out) hK1 NE4r.out); have n1_ := Aside0.mk (blk_kb (B6.out) hK1 NE6r.out); have n2_ := Aside0.mk (R_kb (HO.out) (HR.out) (by decide) hK1); have n3_ := Aside0.mk (R_kb (HJ.out) (HR.out) (by decide) hK1); have n4_ := Aside0.mk (R_kb (HT.out) (HR.out) (by decide) hK1); have n5_ := Aside0.mk (Nat.lt_of_lt_of_le LTr.out hK1.1); have n6_ := Aside0.mk hR1; clear B4 B6 HO HJ HT LTr HR hR1 hK1; have B4 := n0_; have B6 := n1_; have HO := n2_; have HJ := n3_; have HT := n4_; have LTr := n5_; have HR := n6_; clear n0_ n1_ n2_ n3_ n4_ n5_ n6_)); refine hK_.out _ _ (fun _ => (blk_cell B6.out 0).trans rfl) ?_; clear hK_ K_; (try simp only [Act.put, List.setIfInBounds_toArray, List.set_cons_zero, List.set_cons_succ]))
  refine zt 6 ((blk_cell B6.out 0).trans rfl) ?_
  (refine wpZ_one (i := 7) (by kernel_rfl) rfl (fun K_ hK_ => ?_); go_simp; refine hK_.out _ _ (fun _ => (blk_cell (blk_alloc B6.out _) 0).trans rfl) ?_; clear hK_ K_; (try simp only [Act.put, List.setIfInBounds_toArray, List.set_cons_zero, List.set_cons_succ]))
  simp only [List.drop_drop] at HR
  (refine wpZ_one (i := 8) (by kernel_rfl) rfl (fun K_ hK_ => ?_); refine Kd.R_append_step k56 (w0 := w8) w.heap.size rfl (.tmp 77) (.tmp 83) 22 56 (.agg #[.int .i64 0, .bool false, .string ⟨#[]⟩]) 32 rfl Try.underlying22 info_kind rfl (by decide) (by omega) v0 ((List.range k).map (kind0 (o1 4 ti) bs)) (kind0 (o1 4 ti) bs k) [.int .i64 (numU 4 (bs.drop (o1 4 ti + 6 * k))), .bool (rd (bs.drop (o1 4 ti + 6 * k + 4)) 0 == 1), .string ⟨#[]⟩] (fun _ => True) (fun _ => False) rfl rfl (k56_mkM _ _ _ (kind0 (o1 4 ti) bs k)) (fun _ h => h.elim) (fun _ _ => trivial) HO.out (Below.refl _ _) (Nat.le_of_lt (Nat.lt_of_le_of_lt HR.out.1 LTr.out)) (by simp only [List.length_map, List.length_range]; omega) ?_; intro v7 w9 ho hb hg hat; have n0_ := Aside0.mk (blk_grown B4.out hg (Kd.R_ne HO.out B4.out (by decide))); have n1_ := Aside0.mk (blk_grown B6.out hg (Kd.R_ne HO.out B6.out (by decide))); have n2_ := Aside0.mk (Kd.R_over' HJ.out (Kd.R_typed HO.out) (by decide) hg); have n3_ := Aside0.mk (Kd.R_over' HT.out (Kd.R_typed HO.out) (by decide) hg); have n4_ := Aside0.mk (Nat.lt_of_lt_of_le LTr.out hg.size); have n5_ := Aside0.mk (rd_grown HR.out HO.out (by decide) hb hg); have n6_ := Aside0.mk ho; clear B4 B6 HJ HT LTr HR HO ho hb hg hat; have B4 := n0_; have B6 := n1_; have HJ := n2_; have HT := n3_; have LTr := n4_; have HR := n5_; have HO := n6_; clear n0_ n1_ n2_ n3_ n4_ n5_ n6_; refine hK_.out _ _ (fun _ => (blk_cell B6.out 0).trans rfl) ?_; clear hK_ K_; (try simp only [Act.put, List.setIfInBounds_toArray, List.set_cons_zero, List.set_cons_succ]))
  obtain ⟨A7, c7, rfl⟩ := Kd.R_slice HO.out
  refine zt 9 ((blk_cell B6.out 0).trans rfl) ?_
  have z1 : w9.cell? ⟨g6, 0, none⟩ = some v0 := (blk_cell B6.out 0).trans rfl
  have z2 := blk_frozen B6.out 0
  (refine wpZ_one (i := 10) (by kernel_rfl) rfl (fun K_ hK_ => ?_); go_simp; refine hK_.out _ _ (fun h => absurd rfl h) ?_; clear hK_ K_; (try simp only [Act.put, List.setIfInBounds_toArray, List.set_cons_zero, List.set_cons_succ]))
  refine wpZ_done (by kernel_rfl) ?_ _
  clear z1 z2
  obtain ⟨vk, hvk⟩ : ∃ x, x = Value.slice A7 ((List.range k).map (kind0 (o1 4 ti) bs) ++ [kind0 (o1 4 ti) bs k]).length c7 := ⟨_, rfl⟩
  rw [← hvk] at HO
  have hvk2 : Value.slice A7 (k + 1) c7 = vk := by rw [hvk]; simp
  try rw [hvk2]
  try rw [← hvk]
  clear hvk hvk2
  have n0_ := Aside0.mk (show (w9.setCell ⟨g6, 0, none⟩ vk).heap[g4]? = _ from blk_far B4.out NE46.out _); have n1_ := Aside0.mk (show (w9.setCell ⟨g6, 0, none⟩ vk).heap[g6]? = some (.cells #[vk, v1, .slice none 0 0, .slice none 0 0, .slice none 0 0] 27 (0, 0)) from blk_put B6.out 0 _ rfl); have n2_ := Aside0.mk (Kd.R_set HO.out B6.out (by decide) 0 vk); have n3_ := Aside0.mk (Kd.R_set HT.out B6.out (by decide) 0 vk); have n4_ := Aside0.mk (Kd.R_set HJ.out B6.out (by decide) 0 vk); have n5_ := Aside0.mk (rd_set HR.out NE6r.out GEg6.out 0 vk); have n6_ := Aside0.mk (show gr < (w9.setCell ⟨g6, 0, none⟩ vk).heap.size by rw [World.size_setCell]; exact LTr.out); clear B4 B6 HO HT HJ HR LTr; obtain ⟨w10, hwc_⟩ : ∃ x, x = (w9.setCell ⟨g6, 0, none⟩ vk) := ⟨_, rfl⟩; rw [← hwc_] at n0_ n1_ n2_ n3_ n4_ n5_ n6_ ⊢; clear hwc_; have B4 := n0_; have B6 := n1_; have HO := n2_; have HT := n3_; have HJ := n4_; have HR := n5_; have LTr := n6_; clear n0_ n1_ n2_ n3_ n4_ n5_ n6_
  clear HE HE2
  have HE := Aside0.mk (show 1 ≤ (bs.drop (o1 4 ti + 6 * k + 4 + 1)).length from (by have h1_ := HN.out; have h2_ := HL.out; rw [List.length_drop]; simp only [bodyN, o1, o2, o3, o4, o5] at h1_ ⊢; omega))
  go_wp2_with (first
   | (go_at_call 38; (with_reducible refine (take_1 HR.out HE.out).mono ?_); rintro e w11 ⟨ad, c8, rfl, hx0, hR1, hK1⟩; have n0_ := Aside0.mk (blk_kb (B4.out) hK1 NE4r.out); have n1_ := Aside0.mk (blk_kb (B6.out) hK1 NE6r.out); have n2_ := Aside0.mk (R_kb (HO.out) (HR.out) (by decide) hK1); have n3_ := Aside0.mk (R_kb (HJ.out) (HR.out) (by decide) hK1); have n4_ := Aside0.mk (R_kb (HT.out) (HR.out) (by decide) hK1); have n5_ := Aside0.mk (Nat.lt_of_lt_of_le LTr.out hK1.1); have n6_ := Aside0.mk hR1; clear B4 B6 HO HJ HT LTr HR hR1 hK1; have B4 := n0_; have B6 := n1_; have HO := n2_; have HJ := n3_; have HT := n4_; have LTr := n5_; have HR := n6_; clear n0_ n1_ n2_ n3_ n4_ n5_ n6_)
   | ((with_reducible refine gate_builtin (b := .append) (xs := #[.tmp 86, .tmp 92]) rfl ?_); at_builtin; refine Kd.R_append (Kd.int .i64) (w0 := w11) w.heap.size rfl (.tmp 86) (.tmp 92) 62 3 (.int .i64 0) 8 rfl Try.underlying62 info_int rfl (by decide) (by omega) u11 ((List.range k).map (kat (o1 4 ti) bs)) (wrap64 (rd (bs.drop (o1 4 ti + 6 * k + 4 + 1)) 0)) [.int .i64 (wrap64 (rd (bs.drop (o1 4 ti + 6 * k + 4 + 1)) 0))] (fun _ => True) (fun _ => False) rfl rfl rfl (fun _ h => h.elim) (fun _ _ => trivial) HT.out (Below.refl _ _) (Nat.le_of_lt (Nat.lt_of_le_of_lt HR.out.1 LTr.out)) (by simp only [List.length_map, List.length_range]; omega) ?_; intro v7 w12 ho hb hg hat; have n0_ := Aside0.mk (blk_grown B4.out hg (Kd.R_ne HT.out B4.out (by decide))); have n1_ := Aside0.mk (blk_grown B6.out hg (Kd.R_ne HT.out B6.out (by decide))); have n2_ := Aside0.mk (Kd.R_over' HO.out (Kd.R_typed HT.out) (by decide) hg); have n3_ := Aside0.mk (Kd.R_over' HJ.out (Kd.R_typed HT.out) (by decide) hg); have n4_ := Aside0.mk (Nat.lt_of_lt_of_le LTr.out hg.size); have n5_ := Aside0.mk (rd_grown HR.out HT.out (by decide) hb hg); have n6_ := Aside0.mk ho; clear B4 B6 HO HJ LTr HR HT ho hb hg hat; have B4 := n0_; have B6 := n1_; have HO := n2_; have HJ := n3_; have LTr := n4_; have HR := n5_; have HT := n6_; clear n0_ n1_ n2_ n3_ n4_ n5_ n6_))
  go_roundw
  case rel =>
   refine ⟨k + 1, vk, by omega, by go_num, ?_, ⟨?_⟩, HJ, B4, B6, ⟨?_⟩, LTr⟩
   ·
    rw [map_snoc]
    exact HO.out
   ·
    rw [map_snoc]
    exact HT.out
   have h := HR.out
   rw [List.drop_drop] at h
   rw [all_snoc]
   exact h
  case measure => simp [intOf]; omega
 have hkt : ty = k := by omega
 subst hkt
 have cl : decide ((ty : Int) < (ty : Int)) = false := decide_eq_false (by omega)
 obtain ⟨A2, c2, rfl⟩ := Kd.R_slice HO.out
 have hl2 : ((List.range ty).map (kind0 (o1 4 ti) bs)).length = ty := by simp
 rw [hl2] at HO B6
 obtain ⟨A3, c3, rfl⟩ := Kd.R_slice HT.out
 have hl3 : ((List.range ty).map (kat (o1 4 ti) bs)).length = ty := by simp
 rw [hl3] at HT ⊢
 clear hl2 hl3 hlt hk
 have HE := Aside0.mk (show ch ≤ (bs.drop (o1 4 ti + 6 * ty)).length from (by have h1_ := HN.out; have h2_ := HL.out; rw [List.length_drop]; simp only [bodyN, o1, o2, o3, o4, o5] at h1_ ⊢; omega))
 have h6 : wr.cell? ⟨g4, 6, none⟩ = some (.int .i64 ch) := (blk_cell B4.out 6).trans rfl
 go_upto_region 23 with (go_at_call 38; (with_reducible refine (take_c HR.out ch HE.out).mono ?_); rintro e w20 ⟨A4, c4, rfl, hC4, hc4, hR1, hK1⟩; have n0_ := Aside0.mk (blk_kb (B4.out) hK1 NE4r.out); have n1_ := Aside0.mk (blk_kb (B6.out) hK1 NE6r.out); have n2_ := Aside0.mk (R_kb (HO.out) (HR.out) (by decide) hK1); have n3_ := Aside0.mk (R_kb (HJ.out) (HR.out) (by decide) hK1); have n4_ := Aside0.mk (R_kb (HT.out) (HR.out) (by decide) hK1); have n5_ := Aside0.mk (Nat.lt_of_lt_of_le LTr.out hK1.1); have n6_ := Aside0.mk hR1; clear B4 B6 HO HJ HT LTr HR hR1 hK1; have B4 := n0_; have B6 := n1_; have HO := n2_; have HJ := n3_; have HT := n4_; have LTr := n5_; have HR := n6_; clear n0_ n1_ n2_ n3_ n4_ n5_ n6_)
 obtain ⟨ns, hns⟩ : ∃ x, x = dNs 4 ti ty ch bs := ⟨_, rfl⟩
 have hnl : ns.length = ch := by
  rw [hns]
  unfold dNs o2
  have h := HE.out
  rw [List.length_take]
  omega
 have HC4 := Aside0.mk (show Kd.C (Kd.int .u8) w A4 ns.length ns by rw [hnl, hns]; exact hC4)
 have HNS := Aside0.mk hns
 have HNL := Aside0.mk hnl
 have HCC := Aside0.mk hc4
 rw [List.drop_drop] at HR
 rw [← kl_zero (o1 4 ti) ty ns bs] at HO
 have hok0 : (List.range ty).all (ktrue (o1 4 ti) bs) = ((List.range ty).all (ktrue (o1 4 ti) bs) && (List.range 0).all (kname (o1 4 ti) ns bs)) := by simp
 rw [hok0] at HR
 clear hC4 hc4 hns hnl HE hok0 h6 cl
 go_wp2
 go_loopw [101] (fun i wr => ∃ (k : Nat), k ≤ ty ∧ i = .int .i64 k ∧ Kd.R k56 56 wr w.heap.size (fun _ => True) (.slice A2 ty c2) (kl (o1 4 ti) ty ns bs k) ∧ Aside0 (Kd.R (Kd.int .i64) 3 wr w.heap.size (fun _ => True) (.slice A3 ty c3) ((List.range ty).map (kat (o1 4 ti) bs))) ∧ Aside0 (Kd.R k54 54 wr w.heap.size (fun _ => True) v1 (dJ 4 ti bs)) ∧ Aside0 (wr.heap[g4]? = some (.cells #[.int .i64 v, .int .i64 ut, .int .i64 sd, .int .i64 le, .int .i64 ti, .int .i64 ty, .int .i64 ch] 35 (0, 0))) ∧ Aside0 (wr.heap[g6]? = some (.cells #[.slice A2 ty c2, v1, .slice none 0 0, .slice none 0 0, .slice none 0 0] 27 (0, 0))) ∧ Aside0 (Rd w gr (bs.drop (o1 4 ti + 6 * ty + ch)) ((List.range ty).all (ktrue (o1 4 ti) bs) && (List.range k).all (kname (o1 4 ti) ns bs)) wr) ∧ Aside0 (gr < wr.heap.size)) (fun i _ => ty - (intOf i).toNat)
 case atStart => exact ⟨0, Nat.zero_le _, rfl, HO.out, HT, HJ, B4, B6, HR, LTr⟩
 clear B4 B6 HR LTr HJ HO HT
 obtain ⟨k, hk, rfl, hO, HT, HJ, B4, B6, HR, LTr⟩ := hrel
 have HO := Aside0.mk hO
 clear hO
 by_cases hlt : k < ty
 ·
  have cl : decide ((k : Int) < (ty : Int)) = true := decide_eq_true (by omega)
  have ck0 : decide (0 ≤ (k : Int)) = true := decide_eq_true (by omega)
  obtain ⟨ada, e1, hxa⟩ := Kd.at_int (Kd.R_reads' HT.out).2.2 (k : Int) (by omega) (by rw [List.length_map, List.length_range]; omega)
  subst e1
  rw [rdm _ ty k hlt] at hxa
  simp only [Int.toNat_natCast] at hxa
  obtain ⟨g, cap, hv, _, hg0, cells, hcells⟩ := Kd.R_form HO.out (by rw [kl_len]; omega)
  rw [kl_len] at hv
  injection hv with e1 _ e3
  subst e1
  subst e3
  have HNm := Aside0.mk (octets_Name.calls A4 c4 ns (kat (o1 4 ti) bs k) (nameI ns (kat (o1 4 ti) bs k)).1 (nameI ns (kat (o1 4 ti) bs k)).2 wr.drew (Kd.C_below HC4.out (rd_drew HR.out).2.1) (by rw [HNL.out]; exact HCC.out) (name_f ns (kat (o1 4 ti) bs k)))
  rw [HNL.out] at HNm
  have HKN := Aside0.mk (show kname (o1 4 ti) ns bs k = (nameI ns (kat (o1 4 ti) bs k)).2 from rfl)
  have HKS := Aside0.mk (kl_set (o1 4 ti) ty ns bs k hlt)
  obtain ⟨nm, hnm⟩ : ∃ x, x = nameI ns (kat (o1 4 ti) bs k) := ⟨_, rfl⟩
  rw [← hnm] at HNm HKN HKS
  clear hnm
  obtain ⟨nm, nok⟩ := nm
  go_upto_region 27 with fail
  clear hxa
  refine region_Z 99 (fun w' => w'.cell? ⟨g6, 0, none⟩ = some (.slice (some ⟨g, 0, none⟩) ty c2)) (by kernel_rfl) ?_
  refine zt 0 ((blk_cell B6.out 0).trans rfl) ?_; refine zt 1 ((blk_cell B6.out 0).trans rfl) ?_; refine zt 2 ((blk_cell B6.out 0).trans rfl) ?_; refine zt 3 ((blk_cell B6.out 0).trans rfl) ?_; refine zt 4 ((blk_cell B6.out 0).trans rfl) ?_
  (refine wpZ_one (i := 5) (by kernel_rfl) rfl (fun K_ hK_ => ?_); go_simp; go_wp2_with (first | (go_at_call 40; (with_reducible refine (HNm.out).mono ?_); rintro e w7 ⟨rfl, hb⟩; have n0_ := Aside0.mk (blk_below (blk_drew B4.out) hb); have n1_ := Aside0.mk (blk_below (blk_drew B6.out) hb); have n2_ := Aside0.mk (Kd.R_below (Kd.R_drew HO.out) hb); have n3_ := Aside0.mk (Kd.R_below (Kd.R_drew HJ.out) hb); have n4_ := Aside0.mk (Kd.R_below (Kd.R_drew HT.out) hb); have n5_ := Aside0.mk ((rd_drew HR.out).keep (below_step (rd_drew HR.out).2.1 hb) (hb.block gr LTr.out)); have n6_ := Aside0.mk (Nat.lt_of_lt_of_le LTr.out hb.size); clear B4 B6 HO HJ HT HR LTr hb; have B4 := n0_; have B6 := n1_; have HO := n2_; have HJ := n3_; have HT := n4_; have HR := n5_; have LTr := n6_; clear n0_ n1_ n2_ n3_ n4_ n5_ n6_)); refine hK_.out _ _ (fun _ => (blk_cell B6.out 0).trans rfl) ?_; clear hK_ K_; (try simp only [Act.put, List.setIfInBounds_toArray, List.set_cons_zero, List.set_cons_succ]))
  refine zt 6 ((blk_cell B6.out 0).trans rfl) ?_; refine zt 7 ((blk_cell B6.out 0).trans rfl) ?_; refine zt 8 ((blk_cell B6.out 0).trans rfl) ?_
  obtain ⟨HS1, HS2, ⟨u0, hz1⟩, hz2⟩ := kind_put HO.out k hlt nm
  have HS := Aside0.mk HS1
  have HG := Aside0.mk HS2
  clear HS1 HS2
  (refine wpZ_one (i := 9) (by kernel_rfl) rfl (fun K_ hK_ => ?_); go_simp; refine hK_.out _ _ (fun _ => (blk_cell B6.out 0).trans rfl) ?_; clear hK_ K_; (try simp only [Act.put, List.setIfInBounds_toArray, List.set_cons_zero, List.set_cons_succ]))
  (refine wpZ_one (i := 10) (by kernel_rfl) rfl (fun K_ hK_ => ?_); go_simp; refine hK_.out _ _ (fun _ => (blk_cell B6.out 0).trans rfl) ?_; clear hK_ K_; (try simp only [Act.put, List.setIfInBounds_toArray, List.set_cons_zero, List.set_cons_succ]))
  have hn6 : g6 ≠ g := fun e => Kd.R_ne HO.out B6.out (by decide) (by rw [e]; simp [Value.ownBlock])
  have hn4 : g4 ≠ g := fun e => Kd.R_ne HO.out B4.out (by decide) (by rw [e]; simp [Value.ownBlock])
  obtain ⟨cells7, hcells7⟩ := Kd.R_typed HO.out g (by simp [Value.ownBlock])
  have hge := Kd.R_base HO.out g (by simp [Value.ownBlock])
  have HC7 := Aside0.mk (And.intro hcells7 hge)
  clear hcells7 hge
  (refine wpZ_one (i := 11) (by kernel_rfl) rfl (fun K_ hK_ => ?_); go_simp; refine hK_.out _ _ (fun _ => (blk_cell (blk_far B6.out hn6 _) 0).trans rfl) ?_; clear hK_ K_; (try simp only [Act.put, List.setIfInBounds_toArray, List.set_cons_zero, List.set_cons_succ]))
  (refine wpZ_one (i := 12) (by kernel_rfl) rfl (fun K_ hK_ => ?_); go_simp; refine hK_.out _ _ (fun _ => (blk_cell (blk_far B6.out hn6 _) 0).trans rfl) ?_; clear hK_ K_; (try simp only [Act.put, List.setIfInBounds_toArray, List.set_cons_zero, List.set_cons_succ]))
  refine wpZ_done (by kernel_rfl) ?_ _
  clear hz1 hz2
  obtain ⟨w8, hw8⟩ : ∃ x, x = w7.setCell ⟨g, k * 3 + 2, none⟩ (.string nm) := ⟨_, rfl⟩
  have n1_ := Aside0.mk (blk_far (p := ⟨g, k * 3 + 2, none⟩) B4.out hn4 (.string nm))
  have n2_ := Aside0.mk (blk_far (p := ⟨g, k * 3 + 2, none⟩) B6.out hn6 (.string nm))
  have n3_ := Aside0.mk (rd_grow HR.out HG.out HC7.out.1 (by decide) HC7.out.2)
  have n4_ := Aside0.mk (Kd.R_over' HT.out (Kd.R_typed HO.out) (by decide) HG.out)
  have n5_ := Aside0.mk (Kd.R_over' HJ.out (Kd.R_typed HO.out) (by decide) HG.out)
  have n6_ := Aside0.mk (Nat.lt_of_lt_of_le LTr.out HG.out.size)
  rw [← hw8] at n1_ n2_ n3_ n4_ n5_ n6_ HS ⊢
  clear hw8 B4 B6 HR HT HJ LTr HO HG HC7 hn6 hn4 hcells
  have B4 := n1_
  have B6 := n2_
  have HR := n3_
  have HT := n4_
  have HJ := n5_
  have LTr := n6_
  clear n1_ n2_ n3_ n4_ n5_ n6_
  obtain ⟨okk, hokk⟩ : ∃ x, x = ((List.range ty).all (ktrue (o1 4 ti) bs) && (List.range k).all (kname (o1 4 ti) ns bs)) := ⟨_, rfl⟩
  rw [← hokk] at HR
  have HOKK := Aside0.mk hokk
  clear hokk
  obtain ⟨q1, q2, A5, c5, hblk, q3, q4⟩ := HR.out
  have hf1 := blk_frozen hblk 1
  have hc1 : w8.cell? ⟨gr, 1, none⟩ = some (.bool okk) := (blk_cell hblk 1).trans rfl
  have HQ := Aside0.mk (And.intro q1 (And.intro q2 (And.intro q3 q4)))
  have HBK := Aside0.mk hblk
  clear q1 q2 q3 q4 hblk HR
  cases okk
  all_goals
   go_wp2
   go_roundw
   case rel =>
    obtain ⟨q1, q2, q3, q4⟩ := HQ.out
    refine ⟨k + 1, by omega, by go_num, ?_, ⟨R_setb HT.out HBK.out (by decide) 1 _⟩, ⟨R_setb HJ.out HBK.out (by decide) 1 _⟩, ⟨blk_far B4.out NE4r.out _⟩, ⟨blk_far B6.out NE6r.out _⟩, ⟨⟨q1, below_set q2 q1, A5, c5, ?_, q3, q4⟩⟩, ⟨by rw [World.size_setCell]; exact LTr.out⟩⟩
    ·
     rw [← HKS.out]
     exact R_setb HS.out HBK.out (by decide) 1 _
    rw [all_snoc, ← Bool.and_assoc, ← HOKK.out, HKN.out]
    exact blk_put HBK.out 1 _ rfl
   case measure => simp [intOf]; omega
 have hkt : ty = k := by omega
 subst hkt
 have cl : decide ((ty : Int) < (ty : Int)) = false := decide_eq_false (by omega)
 rw [kl_all, HNS.out] at HO
 rw [HNS.out] at HR
 have hoff : o1 4 ti + 6 * ty + ch = o3 4 ti ty ch + (4 + 4) * 0 := by unfold o3 o2; omega
 rw [hoff] at HR
 have HK := Aside0.mk (show Kd.R k56 56 wr w.heap.size (fun _ => True) (.slice A2 ty c2) (dK 4 ti ty ch bs) from HO.out)
 obtain ⟨v0, hv0⟩ : ∃ x, x = Value.slice A2 ty c2 := ⟨_, rfl⟩
 rw [← hv0] at HK B6
 obtain ⟨okk, hokk⟩ : ∃ x, x = ((List.range ty).all (ktrue (o1 4 ti) bs) && (List.range ty).all (kname (o1 4 ti) (dNs 4 ti ty ch bs) bs)) := ⟨_, rfl⟩
 rw [← hokk] at HR
 have HOKK := Aside0.mk hokk
 have h3 : wr.cell? ⟨g4, 3, none⟩ = some (.int .i64 le) := (blk_cell B4.out 3).trans rfl
 clear hv0 hokk hoff HO HC4 HNS HNL HCC HT hlt hk
 go_wp2
 go_loopw [130] (fun i wr => ∃ (k : Nat) (v2 : Value), k ≤ le ∧ i = .int .i64 k ∧ Kd.R k67 67 wr w.heap.size (fun _ => True) v2 ((List.range k).map (leap1 4 (o3 4 ti ty ch) bs)) ∧ Aside0 (Kd.R k56 56 wr w.heap.size (fun _ => True) v0 (dK 4 ti ty ch bs)) ∧ Aside0 (Kd.R k54 54 wr w.heap.size (fun _ => True) v1 (dJ 4 ti bs)) ∧ Aside0 (wr.heap[g4]? = some (.cells #[.int .i64 v, .int .i64 ut, .int .i64 sd, .int .i64 le, .int .i64 ti, .int .i64 ty, .int .i64 ch] 35 (0, 0))) ∧ Aside0 (wr.heap[g6]? = some (.cells #[v0, v1, v2, .slice none 0 0, .slice none 0 0] 27 (0, 0))) ∧ Aside0 (Rd w gr (bs.drop (o3 4 ti ty ch + (4 + 4) * k)) okk wr) ∧ Aside0 (gr < wr.heap.size)) (fun i _ => le - (intOf i).toNat)
 case atStart => exact ⟨0, _, Nat.zero_le _, rfl, Kd.R_nil _ _ _ _ _, HK, HJ, B4, B6, HR, LTr⟩
 clear B4 B6 HR LTr HK HJ h3 cl
 obtain ⟨k, v2, hk, rfl, hO, HK, HJ, B4, B6, HR, LTr⟩ := hrel
 have HO := Aside0.mk hO
 clear hO
 by_cases hlt : k < le
 ·
  have cl : decide ((k : Int) < (le : Int)) = true := decide_eq_true (by omega)
  have HE := Aside0.mk (show 4 ≤ (bs.drop (o3 4 ti ty ch + (4 + 4) * k)).length from (by have h1_ := HN.out; have h2_ := HL.out; rw [List.length_drop]; simp only [bodyN, o1, o2, o3, o4, o5] at h1_ ⊢; omega))
  have HE2 := Aside0.mk (show 4 ≤ ((bs.drop (o3 4 ti ty ch + (4 + 4) * k)).drop 4).length from by rw [List.drop_drop]; exact (by have h1_ := HN.out; have h2_ := HL.out; rw [List.length_drop]; simp only [bodyN, o1, o2, o3, o4, o5] at h1_ ⊢; omega))
  go_upto_region 32 with fail
  refine region_Z 11 (fun w' => w'.cell? ⟨g6, 2, none⟩ = some v2) (by kernel_rfl) ?_
  refine zt 0 ((blk_cell B6.out 2).trans rfl) ?_; refine zt 1 ((blk_cell B6.out 2).trans rfl) ?_; refine zt 2 ((blk_cell B6.out 2).trans rfl) ?_; refine zt 3 ((blk_cell B6.out 2).trans rfl) ?_; refine zt 5 ((blk_cell B6.out 2).trans rfl) ?_
  (refine wpZ_one (i := 4) (by kernel_rfl) rfl (fun K_ hK_ => ?_); go_simp; go_wp2_with (first | (go_at_call 37; (with_reducible refine (number_4 (rd_drew HR.out) HE.out).mono ?_); rintro e w7 ⟨rfl, hR1, hK1⟩; have n0_ := Aside0.mk (blk_kb (blk_drew B4.out) hK1 NE4r.out); have n1_ := Aside0.mk (blk_kb (blk_drew B6.out) hK1 NE6r.out); have n2_ := Aside0.mk (R_kb (Kd.R_drew HO.out) (rd_drew HR.out) (by decide) hK1); have n3_ := Aside0.mk (R_kb (Kd.R_drew HJ.out) (rd_drew HR.out) (by decide) hK1); have n4_ := Aside0.mk (R_kb (Kd.R_drew HK.out) (rd_drew HR.out) (by decide) hK1); have n5_ := Aside0.mk (Nat.lt_of_lt_of_le LTr.out hK1.1); have n6_ := Aside0.mk hR1; clear B4 B6 HO HJ HK LTr HR hR1 hK1; have B4 := n0_; have B6 := n1_; have HO := n2_; have HJ := n3_; have HK := n4_; have LTr := n5_; have HR := n6_; clear n0_ n1_ n2_ n3_ n4_ n5_ n6_)); refine hK_.out _ _ (fun _ => (blk_cell B6.out 2).trans rfl) ?_; clear hK_ K_; (try simp only [Act.put, List.setIfInBounds_toArray, List.set_cons_zero, List.set_cons_succ]))
  (refine wpZ_one (i := 6) (by kernel_rfl) rfl (fun K_ hK_ => ?_); go_simp; go_wp2_with (first | (go_at_call 37; (with_reducible refine (number_4 HR.out HE2.out).mono ?_); rintro e w8 ⟨rfl, hR1, hK1⟩; have n0_ := Aside0.mk (blk_kb (B4.out) hK1 NE4r.out); have n1_ := Aside0.mk (blk_kb (B6.out) hK1 NE6r.out); have n2_ := Aside0.mk (R_kb (HO.out) (HR.out) (by decide) hK1); have n3_ := Aside0.mk (R_kb (HJ.out) (HR.out) (by decide) hK1); have n4_ := Aside0.mk (R_kb (HK.out) (HR.out) (by decide) hK1); have n5_ := Aside0.mk (Nat.lt_of_lt_of_le LTr.out hK1.1); have n6_ := Aside0.mk hR1; clear B4 B6 HO HJ HK LTr HR hR1 hK1; have B4 := n0_; have B6 := n1_; have HO := n2_; have HJ := n3_; have HK := n4_; have LTr := n5_; have HR := n6_; clear n0_ n1_ n2_ n3_ n4_ n5_ n6_)); refine hK_.out _ _ (fun _ => (blk_cell B6.out 2).trans rfl) ?_; clear hK_ K_; (try simp only [Act.put, List.setIfInBounds_toArray, List.set_cons_zero, List.set_cons_succ]))
  refine zt 7 ((blk_cell B6.out 2).trans rfl) ?_
  (refine wpZ_one (i := 8) (by kernel_rfl) rfl (fun K_ hK_ => ?_); go_simp; refine hK_.out _ _ (fun _ => (blk_cell (blk_alloc B6.out _) 2).trans rfl) ?_; clear hK_ K_; (try simp only [Act.put, List.setIfInBounds_toArray, List.set_cons_zero, List.set_cons_succ]))
  simp only [List.drop_drop] at HR
  (refine wpZ_one (i := 9) (by kernel_rfl) rfl (fun K_ hK_ => ?_); refine Kd.R_append_step k67 (w0 := w8) w.heap.size rfl (.tmp 133) (.tmp 140) 24 67 (.agg #[.int .i64 0, .int .i64 0]) 16 rfl Try.underlying24 info_leap rfl (by decide) (by omega) v2 ((List.range k).map (leap1 4 (o3 4 ti ty ch) bs)) (leap1 4 (o3 4 ti ty ch) bs k) [.int .i64 (numU 4 (bs.drop (o3 4 ti ty ch + (4 + 4) * k))), .int .i64 (numU 4 (bs.drop (o3 4 ti ty ch + (4 + 4) * k + 4)))] (fun _ => True) (fun _ => False) rfl rfl (k67_mkM _ _ _ (leap1 4 (o3 4 ti ty ch) bs k)) (fun _ h => h.elim) (fun _ _ => trivial) HO.out (Below.refl _ _) (Nat.le_of_lt (Nat.lt_of_le_of_lt HR.out.1 LTr.out)) (by simp only [List.length_map, List.length_range]; omega) ?_; intro v7 w9 ho hb hg hat; have n0_ := Aside0.mk (blk_grown B4.out hg (Kd.R_ne HO.out B4.out (by decide))); have n1_ := Aside0.mk (blk_grown B6.out hg (Kd.R_ne HO.out B6.out (by decide))); have n2_ := Aside0.mk (Kd.R_over' HJ.out (Kd.R_typed HO.out) (by decide) hg); have n3_ := Aside0.mk (Kd.R_over' HK.out (Kd.R_typed HO.out) (by decide) hg); have n4_ := Aside0.mk (Nat.lt_of_lt_of_le LTr.out hg.size); have n5_ := Aside0.mk (rd_grown HR.out HO.out (by decide) hb hg); have n6_ := Aside0.mk ho; clear B4 B6 HJ HK LTr HR HO ho hb hg hat; have B4 := n0_; have B6 := n1_; have HJ := n2_; have HK := n3_; have LTr := n4_; have HR := n5_; have HO := n6_; clear n0_ n1_ n2_ n3_ n4_ n5_ n6_; refine hK_.out _ _ (fun _ => (blk_cell B6.out 2).trans rfl) ?_; clear hK_ K_; (try simp only [Act.put, List.setIfInBounds_toArray, List.set_cons_zero, List.set_cons_succ]))
  obtain ⟨A7, c7, rfl⟩ := Kd.R_slice HO.out
  refine zt 10 ((blk_cell B6.out 2).trans rfl) ?_
  have z1 : w9.cell? ⟨g6, 2, none⟩ = some v2 := (blk_cell B6.out 2).trans rfl
  have z2 := blk_frozen B6.out 2
  (refine wpZ_one (i := 11) (by kernel_rfl) rfl (fun K_ hK_ => ?_); go_simp; refine hK_.out _ _ (fun h => absurd rfl h) ?_; clear hK_ K_; (try simp only [Act.put, List.setIfInBounds_toArray, List.set_cons_zero, List.set_cons_succ]))
  refine wpZ_done (by kernel_rfl) ?_ _
  clear z1 z2
  go_wp2
  go_roundw
  case rel =>
   refine ⟨k + 1, _, by omega, by go_num, ?_, ⟨Kd.R_set HK.out B6.out (by decide) 2 _⟩, ⟨Kd.R_set HJ.out B6.out (by decide) 2 _⟩, ⟨blk_far B4.out NE46.out _⟩, ⟨blk_put B6.out 2 _ rfl⟩, ⟨?_⟩, ⟨by rw [World.size_setCell]; exact LTr.out⟩⟩
   ·
    rw [map_snoc]
    have h := Kd.R_set HO.out B6.out (by decide) 2
    first | exact h _ | (simp only [List.length_append, List.length_map, List.length_range, List.length_cons, List.length_nil] at h ⊢; exact h _)
   have h := rd_set HR.out NE6r.out GEg6.out 2
   exact (show o3 4 ti ty ch + (4 + 4) * k + 4 + 4 = o3 4 ti ty ch + (4 + 4) * (k + 1) by omega) ▸ h _
  case measure => simp [intOf]; omega
 have hkt : le = k := by omega
 subst hkt
 have cl : decide ((le : Int) < (le : Int)) = false := decide_eq_false (by omega)
 have hoff : o3 4 ti ty ch + (4 + 4) * le = o4 4 le ti ty ch := by unfold o4; rfl
 rw [hoff] at HR
 have HLp := Aside0.mk (show Kd.R k67 67 wr w.heap.size (fun _ => True) v2 (dL 4 le ti ty ch bs) from HO.out)
 clear hoff HO hlt hk
 have h2 : wr.cell? ⟨g4, 2, none⟩ = some (.int .i64 sd) := (blk_cell B4.out 2).trans rfl
 have HE := Aside0.mk (show sd ≤ (bs.drop (o4 4 le ti ty ch)).length from (by have h1_ := HN.out; have h2_ := HL.out; rw [List.length_drop]; simp only [bodyN, o1, o2, o3, o4, o5] at h1_ ⊢; omega))
 have HLE := Aside0.mk (show w.heap.size ≤ wr.heap.size from Nat.le_of_lt (Nat.lt_of_le_of_lt HR.out.1 LTr.out))
 have HSD := Aside0.mk (show sd ≤ 1000000 by omega)
 have HUT := Aside0.mk (show ut ≤ 1000000 by omega)
 have HENC := Aside0.mk (encOK_d 4 ut sd le ti ty ch bs hbd)
 go_upto_region 35 with (go_at_call 41; (with_reducible refine (marks_c HR.out LTr.out sd HE.out HSD.out).mono ?_); rintro e w21 ⟨v3, rfl, hS, hR1, hK1⟩; replace hS := (show Kd.R Kd.bool 4 w21 wr.heap.size (fun _ => True) v3 (isOne (dS 4 sd le ti ty ch bs)) from hS); obtain ⟨A8, c8, rfl⟩ := Kd.R_slice hS; have n0_ := Aside0.mk (blk_kb (B4.out) hK1 NE4r.out); have n1_ := Aside0.mk (blk_kb (B6.out) hK1 NE6r.out); have n2_ := Aside0.mk (R_kb (HK.out) (HR.out) (by decide) hK1); have n3_ := Aside0.mk (R_kb (HJ.out) (HR.out) (by decide) hK1); have n4_ := Aside0.mk (R_kb (HLp.out) (HR.out) (by decide) hK1); have n5_ := Aside0.mk (Nat.lt_of_lt_of_le LTr.out hK1.1); have n6_ := Aside0.mk hR1; clear B4 B6 HK HJ HLp LTr HR hR1 hK1; have B4 := n0_; have B6 := n1_; have HK := n2_; have HJ := n3_; have HLp := n4_; have LTr := n5_; have HR := n6_; clear n0_ n1_ n2_ n3_ n4_ n5_ n6_; have HS := Aside0.mk (Kd.R_lower hS HLE.out); clear hS; have z1 : w21.cell? ⟨g6, 3, none⟩ = some (.slice none 0 0) := (blk_cell B6.out 3).trans rfl; have z2 := blk_frozen B6.out 3)
 clear z1 z2 h2 HE HLE
 have n0_ := Aside0.mk (show (w21.setCell ⟨g6, 3, none⟩ (.slice A8 (isOne (dS 4 sd le ti ty ch bs)).length c8)).heap[g4]? = _ from blk_far B4.out NE46.out _); have n1_ := Aside0.mk (show (w21.setCell ⟨g6, 3, none⟩ (.slice A8 (isOne (dS 4 sd le ti ty ch bs)).length c8)).heap[g6]? = some (.cells #[v0, v1, v2, .slice A8 (isOne (dS 4 sd le ti ty ch bs)).length c8, .slice none 0 0] 27 (0, 0)) from blk_put B6.out 3 _ rfl); have n2_ := Aside0.mk (Kd.R_set HK.out B6.out (by decide) 3 (.slice A8 (isOne (dS 4 sd le ti ty ch bs)).length c8)); have n3_ := Aside0.mk (Kd.R_set HJ.out B6.out (by decide) 3 (.slice A8 (isOne (dS 4 sd le ti ty ch bs)).length c8)); have n4_ := Aside0.mk (Kd.R_set HLp.out B6.out (by decide) 3 (.slice A8 (isOne (dS 4 sd le ti ty ch bs)).length c8)); have n5_ := Aside0.mk (Kd.R_set HS.out B6.out (by decide) 3 (.slice A8 (isOne (dS 4 sd le ti ty ch bs)).length c8)); have n6_ := Aside0.mk (rd_set HR.out NE6r.out GEg6.out 3 (.slice A8 (isOne (dS 4 sd le ti ty ch bs)).length c8)); have n7_ := Aside0.mk (show gr < (w21.setCell ⟨g6, 3, none⟩ (.slice A8 (isOne (dS 4 sd le ti ty ch bs)).length c8)).heap.size by rw [World.size_setCell]; exact LTr.out); clear B4 B6 HK HJ HLp HS HR LTr; obtain ⟨w22, hwc_⟩ : ∃ x, x = (w21.setCell ⟨g6, 3, none⟩ (.slice A8 (isOne (dS 4 sd le ti ty ch bs)).length c8)) := ⟨_, rfl⟩; rw [← hwc_] at n0_ n1_ n2_ n3_ n4_ n5_ n6_ n7_ ⊢; clear hwc_; have B4 := n0_; have B6 := n1_; have HK := n2_; have HJ := n3_; have HLp := n4_; have HS := n5_; have HR := n6_; have LTr := n7_; clear n0_ n1_ n2_ n3_ n4_ n5_ n6_ n7_
 obtain ⟨N, hN⟩ : ∃ x, x = w22.heap.size := ⟨_, rfl⟩
 have HS2 := Aside0.mk (show Kd.R Kd.bool 4 w22 w.heap.size (fun k => k < N) (.slice A8 (isOne (dS 4 sd le ti ty ch bs)).length c8) (isOne (dS 4 sd le ti ty ch bs)) from Kd.R_mono (Kd.R_bound HS.out) (fun k hk => by rw [hN]; exact hk.2.2.1))
 have HNN := Aside0.mk hN
 clear HS hN
 rw [show o4 4 le ti ty ch = o4 4 le ti ty ch + 0 from rfl, List.drop_drop] at HR
 have h1 : w22.cell? ⟨g4, 1, none⟩ = some (.int .i64 ut) := (blk_cell B4.out 1).trans rfl
 have HR2 := Aside0.mk (show Rd w gr (bs.drop (o5 4 sd le ti ty ch)) (okk && allB (dS 4 sd le ti ty ch bs)) w22 from HR.out)
 clear HR
 have HR := HR2
 clear HR2
 have HE := Aside0.mk (show ut ≤ (bs.drop (o5 4 sd le ti ty ch)).length from (by have h1_ := HN.out; have h2_ := HL.out; rw [List.length_drop]; simp only [bodyN, o1, o2, o3, o4, o5] at h1_ ⊢; omega))
 have HLE := Aside0.mk (show w.heap.size ≤ w22.heap.size from Nat.le_of_lt (Nat.lt_of_le_of_lt HR.out.1 LTr.out))
 go_upto_region 36 with (go_at_call 41; (with_reducible refine (marks_c HR.out LTr.out ut HE.out HUT.out).mono ?_); rintro e w23 ⟨v4, rfl, hS, hR1, hK1⟩; replace hS := (show Kd.R Kd.bool 4 w23 w22.heap.size (fun _ => True) v4 (isOne (dU 4 ut sd le ti ty ch bs)) from hS); obtain ⟨A9, c9, rfl⟩ := Kd.R_slice hS; have n0_ := Aside0.mk (blk_kb (B4.out) hK1 NE4r.out); have n1_ := Aside0.mk (blk_kb (B6.out) hK1 NE6r.out); have n2_ := Aside0.mk (R_kb (HK.out) (HR.out) (by decide) hK1); have n3_ := Aside0.mk (R_kb (HJ.out) (HR.out) (by decide) hK1); have n4_ := Aside0.mk (R_kb (HLp.out) (HR.out) (by decide) hK1); have n5_ := Aside0.mk (R_kb (HS2.out) (HR.out) (by decide) hK1); have n6_ := Aside0.mk (Nat.lt_of_lt_of_le LTr.out hK1.1); have n7_ := Aside0.mk hR1; clear B4 B6 HK HJ HLp HS2 LTr HR hR1 hK1; have B4 := n0_; have B6 := n1_; have HK := n2_; have HJ := n3_; have HLp := n4_; have HS2 := n5_; have LTr := n6_; have HR := n7_; clear n0_ n1_ n2_ n3_ n4_ n5_ n6_ n7_; have HU := Aside0.mk (show Kd.R Kd.bool 4 w23 w.heap.size (fun k => N ≤ k) _ _ from Kd.R_lower (Kd.R_mono (Kd.R_bound hS) (fun k hk => by rw [HNN.out]; exact hk.2.1)) HLE.out); clear hS; have z1 : w23.cell? ⟨g6, 4, none⟩ = some (.slice none 0 0) := (blk_cell B6.out 4).trans rfl; have z2 := blk_frozen B6.out 4)
 clear z1 z2 h1 HE HLE HNN
 have n0_ := Aside0.mk (show (w23.setCell ⟨g6, 4, none⟩ (.slice A9 (isOne (dU 4 ut sd le ti ty ch bs)).length c9)).heap[g4]? = _ from blk_far B4.out NE46.out _); have n1_ := Aside0.mk (show (w23.setCell ⟨g6, 4, none⟩ (.slice A9 (isOne (dU 4 ut sd le ti ty ch bs)).length c9)).heap[g6]? = some (.cells #[v0, v1, v2, .slice A8 (isOne (dS 4 sd le ti ty ch bs)).length c8, .slice A9 (isOne (dU 4 ut sd le ti ty ch bs)).length c9] 27 (0, 0)) from blk_put B6.out 4 _ rfl); have n2_ := Aside0.mk (Kd.R_set HK.out B6.out (by decide) 4 (.slice A9 (isOne (dU 4 ut sd le ti ty ch bs)).length c9)); have n3_ := Aside0.mk (Kd.R_set HJ.out B6.out (by decide) 4 (.slice A9 (isOne (dU 4 ut sd le ti ty ch bs)).length c9)); have n4_ := Aside0.mk (Kd.R_set HLp.out B6.out (by decide) 4 (.slice A9 (isOne (dU 4 ut sd le ti ty ch bs)).length c9)); have n5_ := Aside0.mk (Kd.R_set HS2.out B6.out (by decide) 4 (.slice A9 (isOne (dU 4 ut sd le ti ty ch bs)).length c9)); have n6_ := Aside0.mk (Kd.R_set HU.out B6.out (by decide) 4 (.slice A9 (isOne (dU 4 ut sd le ti ty ch bs)).length c9)); have n7_ := Aside0.mk (rd_set HR.out NE6r.out GEg6.out 4 (.slice A9 (isOne (dU 4 ut sd le ti ty ch bs)).length c9)); have n8_ := Aside0.mk (show gr < (w23.setCell ⟨g6, 4, none⟩ (.slice A9 (isOne (dU 4 ut sd le ti ty ch bs)).length c9)).heap.size by rw [World.size_setCell]; exact LTr.out); clear B4 B6 HK HJ HLp HS2 HU HR LTr; obtain ⟨w24, hwc_⟩ : ∃ x, x = (w23.setCell ⟨g6, 4, none⟩ (.slice A9 (isOne (dU 4 ut sd le ti ty ch bs)).length c9)) := ⟨_, rfl⟩; rw [← hwc_] at n0_ n1_ n2_ n3_ n4_ n5_ n6_ n7_ n8_ ⊢; clear hwc_; have B4 := n0_; have B6 := n1_; have HK := n2_; have HJ := n3_; have HLp := n4_; have HS2 := n5_; have HU := n6_; have HR := n7_; have LTr := n8_; clear n0_ n1_ n2_ n3_ n4_ n5_ n6_ n7_ n8_
 have HRP := Aside0.mk (show Rd w gr ((bs.drop (o5 4 sd le ti ty ch)).drop ut) (dOK 4 ut sd le ti ty ch bs) w24 from by have h := HR.out; rw [HOKK.out] at h; exact h)
 clear HR HOKK cl
 obtain ⟨p, hp⟩ : ∃ x, x = dOK 4 ut sd le ti ty ch bs := ⟨_, rfl⟩
 obtain ⟨q, hq⟩ : ∃ x, x = dRight 4 v ut sd le ti ty ch bs := ⟨_, rfl⟩
 have HFF := Aside0.mk (HF.out p q hp.symm hq.symm)
 rw [← hp] at HRP
 obtain ⟨A10, c10, e10, hl10, hC10⟩ := Kd.R_reads HK.out
 obtain ⟨A11, c11, e11, hl11, hC11⟩ := Kd.R_reads HJ.out
 obtain ⟨A12, c12, e12, hl12, hC12⟩ := Kd.R_reads HLp.out
 subst e10 e11 e12
 have HCR := Aside0.mk (Stub.block_Right.calls A10 c10 (dK 4 ti ty ch bs) A11 c11 (dJ 4 ti bs) A12 c12 (dL 4 le ti ty ch bs) A8 c8 (isOne (dS 4 sd le ti ty ch bs)) A9 c9 (isOne (dU 4 ut sd le ti ty ch bs)) 4 v q w24 hC10 hl10 hC11 hl11 hC12 hl12 (Kd.R_reads' HS2.out).2.2 (Kd.R_reads' HS2.out).2.1 (Kd.R_reads' HU.out).2.2 (Kd.R_reads' HU.out).2.1 (by unfold Stub.block_Right.f; rw [if_pos HENC.out, hq]; rfl))
 clear hp hq hl10 hl11 hl12 hC10 hC11 hC12 HF HENC HSD HUT
 obtain ⟨r1, r2, A5, c5, hblk, r3, r4⟩ := HRP.out
 have hc1 : w24.cell? ⟨gr, 1, none⟩ = some (.bool p) := (blk_cell hblk 1).trans rfl
 have HBL := Aside0.mk r2
 clear r1 r2 r3 r4 hblk HRP HL HN
 have s0 : w24.cell? ⟨g6, 0, none⟩ = some (.slice A10 (dK 4 ti ty ch bs).length c10) := (blk_cell B6.out 0).trans rfl
 have s1 : w24.cell? ⟨g6, 1, none⟩ = some (.slice A11 (dJ 4 ti bs).length c11) := (blk_cell B6.out 1).trans rfl
 have s2 : w24.cell? ⟨g6, 2, none⟩ = some (.slice A12 (dL 4 le ti ty ch bs).length c12) := (blk_cell B6.out 2).trans rfl
 have s3 : w24.cell? ⟨g6, 3, none⟩ = some (.slice A8 (isOne (dS 4 sd le ti ty ch bs)).length c8) := (blk_cell B6.out 3).trans rfl
 have s4 : w24.cell? ⟨g6, 4, none⟩ = some (.slice A9 (isOne (dU 4 ut sd le ti ty ch bs)).length c9) := (blk_cell B6.out 4).trans rfl
 have y0 := blk_frozen B6.out 0
 have y1 := blk_frozen B6.out 1
 have y2 := blk_frozen B6.out 2
 have y3 := blk_frozen B6.out 3
 have y4 := blk_frozen B6.out 4
 have x0 : w24.cell? ⟨g4, 0, none⟩ = some (.int .i64 v) := (blk_cell B4.out 0).trans rfl
 cases p
 ·
  clear HCR x0
  go_wp2
  refine bodyPost_ret (results_ct rfl _ _ g6 27 _ (0, 0) _ rfl (put5_at B6.out) Try.underlying27 rfl (by kernel_rfl)) rfl ?_
  exact ⟨_, _, _, _, _, [], [], [], [], [], 4, HFF.out, rfl, Kd.R_nil _ _ _ _ _, Kd.R_nil _ _ _ _ _, Kd.R_nil _ _ _ _ _, Kd.R_nil _ _ _ _ _, Kd.R_nil _ _ _ _ _, put5_below HBL.out GEg6.out⟩
 cases q
 ·
  go_upto_region 37 with (go_at_call 16; (with_reducible refine (HCR.out).mono ?_); rintro e w25 ⟨rfl, hb⟩; have n1_ := Aside0.mk (blk_below B6.out hb); have n2_ := Aside0.mk (Kd.R_below HK.out hb); have n3_ := Aside0.mk (Kd.R_below HJ.out hb); have n4_ := Aside0.mk (Kd.R_below HLp.out hb); have n5_ := Aside0.mk (Kd.R_below HS2.out hb); have n6_ := Aside0.mk (Kd.R_below HU.out hb); have n7_ := Aside0.mk (below_step HBL.out hb); clear B6 HK HJ HLp HS2 HU HBL B4 hb; have B6 := n1_; have HK := n2_; have HJ := n3_; have HLp := n4_; have HS2 := n5_; have HU := n6_; have HBL := n7_; clear n1_ n2_ n3_ n4_ n5_ n6_ n7_; have t0 : w25.cell? ⟨g6, 0, none⟩ = some (.slice A10 (dK 4 ti ty ch bs).length c10) := (blk_cell B6.out 0).trans rfl; have u0 := blk_frozen B6.out 0; have t1 : w25.cell? ⟨g6, 1, none⟩ = some (.slice A11 (dJ 4 ti bs).length c11) := (blk_cell B6.out 1).trans rfl; have u1 := blk_frozen B6.out 1; have t2 : w25.cell? ⟨g6, 2, none⟩ = some (.slice A12 (dL 4 le ti ty ch bs).length c12) := (blk_cell B6.out 2).trans rfl; have u2 := blk_frozen B6.out 2; have t3 : w25.cell? ⟨g6, 3, none⟩ = some (.slice A8 (isOne (dS 4 sd le ti ty ch bs)).length c8) := (blk_cell B6.out 3).trans rfl; have u3 := blk_frozen B6.out 3; have t4 : w25.cell? ⟨g6, 4, none⟩ = some (.slice A9 (isOne (dU 4 ut sd le ti ty ch bs)).length c9) := (blk_cell B6.out 4).trans rfl; have u4 := blk_frozen B6.out 4)
  go_wp2
  refine bodyPost_ret (results_ct rfl _ _ g6 27 _ (0, 0) _ rfl (put5_at B6.out) Try.underlying27 rfl (by kernel_rfl)) rfl ?_
  exact ⟨_, _, _, _, _, [], [], [], [], [], 4, HFF.out, rfl, Kd.R_nil _ _ _ _ _, Kd.R_nil _ _ _ _ _, Kd.R_nil _ _ _ _ _, Kd.R_nil _ _ _ _ _, Kd.R_nil _ _ _ _ _, put5_below HBL.out GEg6.out⟩
 go_upto_region 38 with (go_at_call 16; (with_reducible refine (HCR.out).mono ?_); rintro e w25 ⟨rfl, hb⟩; have n1_ := Aside0.mk (blk_below B6.out hb); have n2_ := Aside0.mk (Kd.R_below HK.out hb); have n3_ := Aside0.mk (Kd.R_below HJ.out hb); have n4_ := Aside0.mk (Kd.R_below HLp.out hb); have n5_ := Aside0.mk (Kd.R_below HS2.out hb); have n6_ := Aside0.mk (Kd.R_below HU.out hb); have n7_ := Aside0.mk (below_step HBL.out hb); clear B6 HK HJ HLp HS2 HU HBL B4 hb; have B6 := n1_; have HK := n2_; have HJ := n3_; have HLp := n4_; have HS2 := n5_; have HU := n6_; have HBL := n7_; clear n1_ n2_ n3_ n4_ n5_ n6_ n7_; have t0 : w25.cell? ⟨g6, 0, none⟩ = some (.slice A10 (dK 4 ti ty ch bs).length c10) := (blk_cell B6.out 0).trans rfl; have u0 := blk_frozen B6.out 0; have t1 : w25.cell? ⟨g6, 1, none⟩ = some (.slice A11 (dJ 4 ti bs).length c11) := (blk_cell B6.out 1).trans rfl; have u1 := blk_frozen B6.out 1; have t2 : w25.cell? ⟨g6, 2, none⟩ = some (.slice A12 (dL 4 le ti ty ch bs).length c12) := (blk_cell B6.out 2).trans rfl; have u2 := blk_frozen B6.out 2; have t3 : w25.cell? ⟨g6, 3, none⟩ = some (.slice A8 (isOne (dS 4 sd le ti ty ch bs)).length c8) := (blk_cell B6.out 3).trans rfl; have u3 := blk_frozen B6.out 3; have t4 : w25.cell? ⟨g6, 4, none⟩ = some (.slice A9 (isOne (dU 4 ut sd le ti ty ch bs)).length c9) := (blk_cell B6.out 4).trans rfl; have u4 := blk_frozen B6.out 4)
 go_wp2
 refine bodyPost_ret (results_ct rfl _ _ g6 27 _ (0, 0) _ rfl (put5_at B6.out) Try.underlying27 rfl (by kernel_rfl)) rfl ?_
 exact ⟨_, _, _, _, _, _, _, _, _, _, 0, HFF.out, rfl, put5_R HK.out B6.out (by decide), put5_R HJ.out B6.out (by decide), put5_R HLp.out B6.out (by decide), Kd.R_mono (put5_R HS2.out B6.out (by decide)) (fun k hk e => by have h := HU.out.1 k e.symm; omega), Kd.R_mono (put5_R HU.out B6.out (by decide)) (fun k hk e => by have h := HS2.out.1 k e.symm; omega), put5_below HBL.out GEg6.out⟩
end Go.Proofs.Ythobnoknbdljgaa.Hand
end
section
namespace Go.Proofs.Ythobnoknbdljgaa.Hand
open Go.RowKit Go.Proofs.YthobnoknbdljgaaW.PrintWords Go.Proofs.YthobnoknbdljgaaW.PrintLast Go.Proofs.YthobnoknbdljgaaW.PrintMore PB0
set_option linter.unusedVariables false
set_option linter.unusedSimpArgs false
set_option maxHeartbeats 8000000 in
set_option maxRecDepth 100000 in
theorem decode8_walk (A0 : Option Addr) (c0 : Nat) (l0 : List Int) (v : Int) (ut sd le ti ty ch : Nat) (w : World) (hr0 : Kd.C (Kd.int .u8) w A0 l0.length l0) (hc0 : l0.length ≤ c0) (hp : rightP v ut sd le ti ty ch) (hl : bodyN 8 ut sd le ti ty ch ≤ l0.length) :
  Calls Try.prog 21 #[.slice A0 l0.length c0, .agg #[.int .i64 v, .int .i64 ut, .int .i64 sd, .int .i64 le, .int .i64 ti, .int .i64 ty, .int .i64 ch], .int .i64 8] w fun e w' => ∃ v0_ v1_ v2_ v3_ v4_ : Value, ∃ (r1 : List S56) (r2 : List S54) (r3 : List S67) (r4 r5 : List Bool) (r6 : Int), block_Decode.f l0 v ut sd le ti ty ch 8 = some (r1, r2, r3, r4, r5, r6) ∧ e = .returned (.tuple #[.agg #[v0_, v1_, v2_, v3_, v4_], .int .i64 r6]) ∧ Kd.R k56 56 w' w.heap.size (fun _ => True) v0_ r1 ∧ Kd.R k54 54 w' w.heap.size (fun _ => True) v1_ r2 ∧ Kd.R k67 67 w' w.heap.size (fun _ => True) v2_ r3 ∧ Kd.R Kd.bool 4 w' w.heap.size (fun k_ => some k_ ≠ (v4_ : Value).ownBlock) v3_ r4 ∧ Kd.R Kd.bool 4 w' w.heap.size (fun k_ => some k_ ≠ (v3_ : Value).ownBlock) v4_ r5 ∧ Below w.heap.size w w' := by
 have hu27 := Try.underlying27
 have hu35 := Try.underlying35
 have hu81 := Try.underlying81
 have HB := Aside0.mk (Below.refl w.heap.size w)
 have HP := Aside0.mk (show PB0.header_Right.f v ut sd le ti ty ch = some true by rw [hright_f, decide_eq_true hp])
 have HBO := Aside0.mk (body_8 v ut sd le ti ty ch hp)
 have hbd : ti ≤ 5000 ∧ le ≤ 5000 ∧ ty ≤ 256 ∧ ch ≤ 256 ∧ ut ≤ 256 ∧ sd ≤ 256 := by
  obtain ⟨h1, h2, h3, h4, h5, h6, h7⟩ := hp
  omega
 obtain ⟨nB, hnB⟩ : ∃ x, x = bodyN 8 ut sd le ti ty ch := ⟨_, rfl⟩
 rw [← hnB] at hl HBO
 obtain ⟨bs, hbs⟩ : ∃ x, x = l0.take nB := ⟨_, rfl⟩
 have hbl : bs.length = nB := by rw [hbs, List.length_take]; omega
 have HC := Aside0.mk (show Kd.C (Kd.int .u8) w A0 bs.length bs by rw [hbs]; exact Kd.C_take hr0 hl)
 have HF := Aside0.mk (show ∀ (p q : Bool), dOK 8 ut sd le ti ty ch bs = p → dRight 8 v ut sd le ti ty ch bs = q → block_Decode.f l0 v ut sd le ti ty ch 8 = if p = true ∧ q = true then some (dK 8 ti ty ch bs, dJ 8 ti bs, dL 8 le ti ty ch bs, isOne (dS 8 sd le ti ty ch bs), isOne (dU 8 ut sd le ti ty ch bs), 0) else some ([], [], [], [], [], 4) from by
  intro p q e1 e2
  unfold block_Decode.f
  rw [if_pos ⟨by decide, hp⟩]
  simp only [Int.toNat_natCast, show ((8 : Int)).toNat = 8 from rfl]
  rw [← hnB, if_neg (by omega), ← hbs, e1, e2])
 have HN := Aside0.mk hnB
 have HL := Aside0.mk hbl
 have ha := cut_h A0 l0.length c0 (nB : Int) (by omega) (by omega)
 rw [Int.toNat_natCast] at ha
 have HQ := Aside0.mk (show nB ≤ c0 by omega)
 have hlt0 : decide ((l0.length : Int) < (nB : Int)) = false := decide_eq_false (by omega)
 have hlt1 : decide (l0.length < nB) = false := decide_eq_false (by omega)
 clear hnB hbs hbl hr0 hc0 hp hl
 go_enter Try.func21, Try.ntmps21
 go_upto_region 7 with (first
  | ((with_reducible refine gate_dst (N := 4) rfl ?_); refine box_event ?hg (N := 4) ?hd (cs := #[.int .i64 v, .int .i64 ut, .int .i64 sd, .int .i64 le, .int .i64 ti, .int .i64 ty, .int .i64 ch]) (t := 35) ?hr ?_; (case hd => rfl); (case hg => rfl); (case hr => first | (go_simp; done) | (go_simp; rfl)); intro g4 hg w1 hbox hb; have Bg4 := Aside0.mk hbox; have GEg4 := Aside0.mk (show w.heap.size ≤ g4 by first | omega | (have h_ := below_size HB.out; omega)); clear hbox hg; have n0_ := Aside0.mk (below_step HB.out hb); clear HB; have HB := n0_; clear n0_ hb; obtain ⟨s0, s1, s2, s3, s4, s5, s6⟩ := Sq.c7 Bg4)
  | ((with_reducible refine gate_dst (N := 6) rfl ?_); refine box_event ?hg (N := 6) ?hd (cs := #[.slice none 0 0, .slice none 0 0, .slice none 0 0, .slice none 0 0, .slice none 0 0]) (t := 27) ?hr ?_; (case hd => rfl); (case hg => rfl); (case hr => first | (go_simp; done) | (go_simp; rfl)); intro g6 hg w2 hbox hb; have Bg6 := Aside0.mk hbox; have GEg6 := Aside0.mk (show w.heap.size ≤ g6 by first | omega | (have h_ := below_size HB.out; omega)); have NE46 := Aside0.mk (show g4 ≠ g6 by have := blk_lt Bg4.out; omega); clear hbox hg; have n0_ := Aside0.mk (blk_below Bg4.out hb); have n1_ := Aside0.mk (below_step HB.out hb); clear Bg4 HB; have Bg4 := n0_; have HB := n1_; clear n0_ n1_ hb; obtain ⟨t0, t1, t2, t3, t4, t5, t6⟩ := Sq.c7 Bg4)
  | (go_at_call 19; (with_reducible refine (PB0.header_Right.calls v ut sd le ti ty ch true _ HP.out).mono ?_); rintro e w3 ⟨rfl, hb⟩; have n0_ := Aside0.mk (blk_below Bg4.out hb); have n1_ := Aside0.mk (blk_below Bg6.out hb); have n2_ := Aside0.mk (below_step HB.out hb); clear Bg4 Bg6 HB; have Bg4 := n0_; have Bg6 := n1_; have HB := n2_; clear n0_ n1_ n2_ hb; obtain ⟨x0, x1, x2, x3, x4, x5, x6⟩ := Sq.c7 Bg4)
  | (go_at_call 20; (with_reducible refine (PB0.header_Body.calls v ut sd le ti ty ch 8 (nB : Int) _ HBO.out).mono ?_); rintro e w4 ⟨rfl, hb⟩; have n0_ := Aside0.mk (blk_below Bg4.out hb); have n1_ := Aside0.mk (blk_below Bg6.out hb); have n2_ := Aside0.mk (below_step HB.out hb); clear Bg4 Bg6 HB; have Bg4 := n0_; have Bg6 := n1_; have HB := n2_; clear n0_ n1_ n2_ hb; obtain ⟨y0, y1, y2, y3, y4, y5, y6⟩ := Sq.c7 Bg4)
  | ((with_reducible refine gate_dst (N := 40) rfl ?_); refine box_event ?hg (N := 40) ?hd (cs := #[.slice A0 nB c0, .bool true]) (t := 81) ?hr ?_; (case hd => rfl); (case hg => rfl); (case hr => first | (go_simp; done) | (go_simp; rfl)); intro gr hg w5 hbox hb; have Bgr := Aside0.mk hbox; have GEgr := Aside0.mk (show w.heap.size ≤ gr by first | omega | (have h_ := below_size HB.out; omega)); have NE6r := Aside0.mk (show g6 ≠ gr by have := blk_lt Bg6.out; omega); have NE4r := Aside0.mk (show g4 ≠ gr by have := blk_lt Bg4.out; omega); clear hbox hg; have n0_ := Aside0.mk (blk_below Bg4.out hb); have n1_ := Aside0.mk (blk_below Bg6.out hb); have n2_ := Aside0.mk (below_step HB.out hb); clear Bg4 Bg6 HB; have Bg4 := n0_; have Bg6 := n1_; have HB := n2_; clear n0_ n1_ n2_ hb))
 refine forget_wp (fun wc => Aside0 (wc.heap[g4]? = some (.cells #[.int .i64 v, .int .i64 ut, .int .i64 sd, .int .i64 le, .int .i64 ti, .int .i64 ty, .int .i64 ch] 35 (0, 0))) ∧ Aside0 (wc.heap[g6]? = some (.cells #[.slice none 0 0, .slice none 0 0, .slice none 0 0, .slice none 0 0, .slice none 0 0] 27 (0, 0))) ∧ Aside0 (Rd w gr (bs.drop (8 * 0)) true wc) ∧ Aside0 (gr < wc.heap.size)) ⟨Bg4, Bg6, ⟨GEgr.out, HB.out, A0, c0, by rw [Nat.mul_zero, List.drop_zero, HL.out]; exact Bgr.out, by rw [Nat.mul_zero, List.drop_zero]; exact HC.out, by rw [Nat.mul_zero, List.drop_zero, HL.out]; exact HQ.out⟩, ⟨blk_lt Bgr.out⟩⟩ ?_
 clear Bg4 Bg6 Bgr HB ha hlt0 hlt1 HC HQ HP HBO
 try clear s0 s1 s2 s3 s4 s5 s6
 try clear t0 t1 t2 t3 t4 t5 t6
 try clear x0 x1 x2 x3 x4 x5 x6
 try clear y0 y1 y2 y3 y4 y5 y6
 rintro w6 ⟨B4, B6, HR, LTr⟩
 have h4 : w6.cell? ⟨g4, 4, none⟩ = some (.int .i64 ti) := (blk_cell B4.out 4).trans rfl
 go_wp2
 go_loopw [43] (fun i wr => ∃ (k : Nat) (v1 : Value), k ≤ ti ∧ i = .int .i64 k ∧ Kd.R k54 54 wr w.heap.size (fun _ => True) v1 ((List.range k).map (jump0 8 bs)) ∧ Aside0 (wr.heap[g4]? = some (.cells #[.int .i64 v, .int .i64 ut, .int .i64 sd, .int .i64 le, .int .i64 ti, .int .i64 ty, .int .i64 ch] 35 (0, 0))) ∧ Aside0 (wr.heap[g6]? = some (.cells #[.slice none 0 0, v1, .slice none 0 0, .slice none 0 0, .slice none 0 0] 27 (0, 0))) ∧ Aside0 (Rd w gr (bs.drop (8 * k)) true wr) ∧ Aside0 (gr < wr.heap.size)) (fun i _ => ti - (intOf i).toNat)
 case atStart => exact ⟨0, _, Nat.zero_le _, rfl, Kd.R_nil _ _ _ _ _, B4, B6, HR, LTr⟩
 clear B4 B6 HR LTr h4
 obtain ⟨k, v1, hk, rfl, hO, B4, B6, HR, LTr⟩ := hrel
 have HO := Aside0.mk hO
 clear hO
 by_cases hlt : k < ti
 ·
  have cl : decide ((k : Int) < (ti : Int)) = true := decide_eq_true (by omega)
  have HE := Aside0.mk (show 8 ≤ (bs.drop (8 * k)).length from (by have h1_ := HN.out; have h2_ := HL.out; rw [List.length_drop]; simp only [bodyN, o1, o2, o3, o4, o5] at h1_ ⊢; omega))
  go_upto_region 9 with fail
  refine region_Z 9 (fun w' => w'.cell? ⟨g6, 1, none⟩ = some v1) (by kernel_rfl) ?_
  refine zt 0 ((blk_cell B6.out 1).trans rfl) ?_; refine zt 1 ((blk_cell B6.out 1).trans rfl) ?_; refine zt 2 ((blk_cell B6.out 1).trans rfl) ?_; refine zt 3 ((blk_cell B6.out 1).trans rfl) ?_
  (refine wpZ_one (i := 4) (by kernel_rfl) rfl (fun K_ hK_ => ?_); go_simp; go_wp2_with (first | (go_at_call 37; (with_reducible refine (number_8 (rd_drew HR.out) HE.out).mono ?_); rintro e w7 ⟨rfl, hR1, hK1⟩; have n0_ := Aside0.mk (blk_kb (blk_drew B4.out) hK1 NE4r.out); have n1_ := Aside0.mk (blk_kb (blk_drew B6.out) hK1 NE6r.out); have n2_ := Aside0.mk (R_kb (Kd.R_drew HO.out) (rd_drew HR.out) (by decide) hK1); have n3_ := Aside0.mk (Nat.lt_of_lt_of_le LTr.out hK1.1); have n4_ := Aside0.mk hR1; clear B4 B6 HO LTr HR hR1 hK1; have B4 := n0_; have B6 := n1_; have HO := n2_; have LTr := n3_; have HR := n4_; clear n0_ n1_ n2_ n3_ n4_)); refine hK_.out _ _ (fun _ => (blk_cell B6.out 1).trans rfl) ?_; clear hK_ K_; (try simp only [Act.put, List.setIfInBounds_toArray, List.set_cons_zero, List.set_cons_succ]))
  refine zt 5 ((blk_cell B6.out 1).trans rfl) ?_
  (refine wpZ_one (i := 6) (by kernel_rfl) rfl (fun K_ hK_ => ?_); go_simp; refine hK_.out _ _ (fun _ => (blk_cell (blk_alloc B6.out _) 1).trans rfl) ?_; clear hK_ K_; (try simp only [Act.put, List.setIfInBounds_toArray, List.set_cons_zero, List.set_cons_succ]))
  (refine wpZ_one (i := 7) (by kernel_rfl) rfl (fun K_ hK_ => ?_); refine Kd.R_append_step k54 (w0 := w7) w.heap.size rfl (.tmp 46) (.tmp 51) 23 54 (.agg #[.int .i64 0, .int .i64 0]) 16 rfl Try.underlying23 info_jump rfl (by decide) (by omega) v1 ((List.range k).map (jump0 8 bs)) (jump0 8 bs k) [.int .i64 (numU 8 (bs.drop (8 * k))), .int .i64 0] (fun _ => True) (fun _ => False) rfl rfl (k54_mkM _ _ _ (jump0 8 bs k)) (fun _ h => h.elim) (fun _ _ => trivial) HO.out (Below.refl _ _) (Nat.le_of_lt (Nat.lt_of_le_of_lt HR.out.1 LTr.out)) (by simp only [List.length_map, List.length_range]; omega) ?_; intro v7 w8 ho hb hg hat; have n0_ := Aside0.mk (blk_grown B4.out hg (Kd.R_ne HO.out B4.out (by decide))); have n1_ := Aside0.mk (blk_grown B6.out hg (Kd.R_ne HO.out B6.out (by decide))); have n2_ := Aside0.mk (Nat.lt_of_lt_of_le LTr.out hg.size); have n3_ := Aside0.mk (rd_grown HR.out HO.out (by decide) hb hg); have n4_ := Aside0.mk ho; clear B4 B6 LTr HR HO ho hb hg hat; have B4 := n0_; have B6 := n1_; have LTr := n2_; have HR := n3_; have HO := n4_; clear n0_ n1_ n2_ n3_ n4_; refine hK_.out _ _ (fun _ => (blk_cell B6.out 1).trans rfl) ?_; clear hK_ K_; (try simp only [Act.put, List.setIfInBounds_toArray, List.set_cons_zero, List.set_cons_succ]))
  obtain ⟨A7, c7, rfl⟩ := Kd.R_slice HO.out
  refine zt 8 ((blk_cell B6.out 1).trans rfl) ?_
  have z1 : w8.cell? ⟨g6, 1, none⟩ = some v1 := (blk_cell B6.out 1).trans rfl
  have z2 := blk_frozen B6.out 1
  (refine wpZ_one (i := 9) (by kernel_rfl) rfl (fun K_ hK_ => ?_); go_simp; refine hK_.out _ _ (fun h => absurd rfl h) ?_; clear hK_ K_; (try simp only [Act.put, List.setIfInBounds_toArray, List.set_cons_zero, List.set_cons_succ]))
  refine wpZ_done (by kernel_rfl) ?_ _
  clear z1 z2
  go_wp2
  go_roundw
  case rel =>
   refine ⟨k + 1, _, by omega, by go_num, ?_, ⟨blk_far B4.out NE46.out _⟩, ⟨blk_put B6.out 1 _ rfl⟩, ⟨?_⟩, ⟨by rw [World.size_setCell]; exact LTr.out⟩⟩
   ·
    rw [map_snoc]
    have h := Kd.R_set HO.out B6.out (by decide) 1
    first | exact h _ | (simp only [List.length_append, List.length_map, List.length_range, List.length_cons, List.length_nil] at h ⊢; exact h _)
   have h := rd_set HR.out NE6r.out GEg6.out 1
   rw [List.drop_drop] at h
   exact h _
  case measure => simp [intOf]; omega
 have hkt : ti = k := by omega
 subst hkt
 have cl : decide ((ti : Int) < (ti : Int)) = false := decide_eq_false (by omega)
 obtain ⟨A1, c1, rfl⟩ := Kd.R_slice HO.out
 have hl1 : ((List.range ti).map (jump0 8 bs)).length = ti := by simp
 rw [hl1] at HO B6
 rw [← jl_zero] at HO
 clear hl1 hlt hk
 have h1 : wr.cell? ⟨g6, 1, none⟩ = some (.slice A1 ti c1) := (blk_cell B6.out 1).trans rfl
 go_wp2
 go_loopw [58] (fun i wr => ∃ (k : Nat), k ≤ ti ∧ i = .int .i64 k ∧ Kd.R k54 54 wr w.heap.size (fun _ => True) (.slice A1 ti c1) (jl 8 ti bs k) ∧ Aside0 (wr.heap[g4]? = some (.cells #[.int .i64 v, .int .i64 ut, .int .i64 sd, .int .i64 le, .int .i64 ti, .int .i64 ty, .int .i64 ch] 35 (0, 0))) ∧ Aside0 (wr.heap[g6]? = some (.cells #[.slice none 0 0, .slice A1 ti c1, .slice none 0 0, .slice none 0 0, .slice none 0 0] 27 (0, 0))) ∧ Aside0 (Rd w gr (bs.drop (8 * ti + k)) true wr) ∧ Aside0 (gr < wr.heap.size)) (fun i _ => ti - (intOf i).toNat)
 case atStart => exact ⟨0, Nat.zero_le _, rfl, HO.out, B4, B6, HR, LTr⟩
 clear B4 B6 HR LTr h1 HO cl
 obtain ⟨k, hk, rfl, hO, B4, B6, HR, LTr⟩ := hrel
 have HO := Aside0.mk hO
 clear hO
 by_cases hlt : k < ti
 ·
  have cl : decide ((k : Int) < (ti : Int)) = true := decide_eq_true (by omega)
  have ck0 : decide (0 ≤ (k : Int)) = true := decide_eq_true (by omega)
  have HE := Aside0.mk (show 1 ≤ (bs.drop (8 * ti + k)).length from (by have h1_ := HN.out; have h2_ := HL.out; rw [List.length_drop]; simp only [bodyN, o1, o2, o3, o4, o5] at h1_ ⊢; omega))
  obtain ⟨g, cap, hv, _, hg0, cells, hcells⟩ := Kd.R_form HO.out (by rw [jl_len]; omega)
  rw [jl_len] at hv
  injection hv with e1 _ e3
  subst e1
  subst e3
  go_upto_region 14 with fail
  refine region_Z 99 (fun w' => w'.cell? ⟨g6, 1, none⟩ = some (.slice (some ⟨g, 0, none⟩) ti c1)) (by kernel_rfl) ?_
  refine zt 0 ((blk_cell B6.out 1).trans rfl) ?_; refine zt 1 ((blk_cell B6.out 1).trans rfl) ?_; refine zt 2 ((blk_cell B6.out 1).trans rfl) ?_; refine zt 3 ((blk_cell B6.out 1).trans rfl) ?_
  (refine wpZ_one (i := 4) (by kernel_rfl) rfl (fun K_ hK_ => ?_); go_simp; go_wp2_with (first | (go_at_call 38; (with_reducible refine (take_1 (rd_drew HR.out) HE.out).mono ?_); rintro e w7 ⟨ad, c7, rfl, hx0, hR1, hK1⟩; have n0_ := Aside0.mk (blk_kb (blk_drew B4.out) hK1 NE4r.out); have n1_ := Aside0.mk (blk_kb (blk_drew B6.out) hK1 NE6r.out); have n2_ := Aside0.mk (R_kb (Kd.R_drew HO.out) (rd_drew HR.out) (by decide) hK1); have n3_ := Aside0.mk (Nat.lt_of_lt_of_le LTr.out hK1.1); have n4_ := Aside0.mk hR1; clear B4 B6 HO LTr HR hR1 hK1; have B4 := n0_; have B6 := n1_; have HO := n2_; have LTr := n3_; have HR := n4_; clear n0_ n1_ n2_ n3_ n4_)); refine hK_.out _ _ (fun _ => (blk_cell B6.out 1).trans rfl) ?_; clear hK_ K_; (try simp only [Act.put, List.setIfInBounds_toArray, List.set_cons_zero, List.set_cons_succ]))
  (refine wpZ_one (i := 5) (by kernel_rfl) rfl (fun K_ hK_ => ?_); go_simp; refine hK_.out _ _ (fun _ => (blk_cell B6.out 1).trans rfl) ?_; clear hK_ K_; (try simp only [Act.put, List.setIfInBounds_toArray, List.set_cons_zero, List.set_cons_succ]))
  (refine wpZ_one (i := 6) (by kernel_rfl) rfl (fun K_ hK_ => ?_); go_simp; refine hK_.out _ _ (fun _ => (blk_cell B6.out 1).trans rfl) ?_; clear hK_ K_; (try simp only [Act.put, List.setIfInBounds_toArray, List.set_cons_zero, List.set_cons_succ]))
  (refine wpZ_one (i := 7) (by kernel_rfl) rfl (fun K_ hK_ => ?_); go_simp; refine hK_.out _ _ (fun _ => (blk_cell B6.out 1).trans rfl) ?_; clear hK_ K_; (try simp only [Act.put, List.setIfInBounds_toArray, List.set_cons_zero, List.set_cons_succ]))
  obtain ⟨HS1, HS2, ⟨u0, hz1⟩, hz2⟩ := jump_put HO.out k hlt (wrap64 (rd (bs.drop (8 * ti + k)) 0))
  have HS := Aside0.mk HS1
  have HG := Aside0.mk HS2
  clear HS1 HS2
  (refine wpZ_one (i := 8) (by kernel_rfl) rfl (fun K_ hK_ => ?_); go_simp; refine hK_.out _ _ (fun _ => (blk_cell B6.out 1).trans rfl) ?_; clear hK_ K_; (try simp only [Act.put, List.setIfInBounds_toArray, List.set_cons_zero, List.set_cons_succ]))
  (refine wpZ_one (i := 9) (by kernel_rfl) rfl (fun K_ hK_ => ?_); go_simp; refine hK_.out _ _ (fun _ => (blk_cell B6.out 1).trans rfl) ?_; clear hK_ K_; (try simp only [Act.put, List.setIfInBounds_toArray, List.set_cons_zero, List.set_cons_succ]))
  have hn6 : g6 ≠ g := fun e => Kd.R_ne HO.out B6.out (by decide) (by rw [e]; simp [Value.ownBlock])
  have hn4 : g4 ≠ g := fun e => Kd.R_ne HO.out B4.out (by decide) (by rw [e]; simp [Value.ownBlock])
  obtain ⟨cells7, hcells7⟩ := Kd.R_typed HO.out g (by simp [Value.ownBlock])
  have hge := Kd.R_base HO.out g (by simp [Value.ownBlock])
  have HC7 := Aside0.mk (And.intro hcells7 hge)
  clear hcells7 hge
  (refine wpZ_one (i := 10) (by kernel_rfl) rfl (fun K_ hK_ => ?_); go_simp; refine hK_.out _ _ (fun _ => (blk_cell (blk_far B6.out hn6 _) 1).trans rfl) ?_; clear hK_ K_; (try simp only [Act.put, List.setIfInBounds_toArray, List.set_cons_zero, List.set_cons_succ]))
  refine wpZ_done (by kernel_rfl) ?_ _
  clear hz1 hz2 hx0
  go_wp2
  go_roundw
  case rel =>
   refine ⟨k + 1, by omega, by go_num, ?_, ⟨blk_far B4.out hn4 _⟩, ⟨blk_far B6.out hn6 _⟩, ⟨?_⟩, ⟨by rw [World.size_setCell]; exact LTr.out⟩⟩
   ·
    rw [← jl_set 8 ti bs k hlt]
    exact HS.out
   have h := rd_grow HR.out HG.out HC7.out.1 (by decide) HC7.out.2
   rw [List.drop_drop, Nat.add_assoc] at h
   exact h
  case measure => simp [intOf]; omega
 have hkt : ti = k := by omega
 subst hkt
 have cl : decide ((ti : Int) < (ti : Int)) = false := decide_eq_false (by omega)
 rw [jl_all] at HO
 obtain ⟨v1, hv1⟩ : ∃ x, x = Value.slice A1 ti c1 := ⟨_, rfl⟩
 rw [← hv1] at HO B6
 clear hv1 hlt hk
 have hoff : 8 * ti + ti = o1 8 ti + 6 * 0 := by unfold o1; omega
 rw [hoff] at HR
 clear hoff
 have h5 : wr.cell? ⟨g4, 5, none⟩ = some (.int .i64 ty) := (blk_cell B4.out 5).trans rfl
 have HJ := HO
 clear HO
 go_wp2
 go_loopw [11, 74] (fun va i wr => ∃ (k : Nat) (v0 : Value), k ≤ ty ∧ i = .int .i64 k ∧ Kd.R k56 56 wr w.heap.size (fun _ => True) v0 ((List.range k).map (kind0 (o1 8 ti) bs)) ∧ Aside0 (Kd.R (Kd.int .i64) 3 wr w.heap.size (fun _ => True) va ((List.range k).map (kat (o1 8 ti) bs))) ∧ Aside0 (Kd.R k54 54 wr w.heap.size (fun _ => True) v1 (dJ 8 ti bs)) ∧ Aside0 (wr.heap[g4]? = some (.cells #[.int .i64 v, .int .i64 ut, .int .i64 sd, .int .i64 le, .int .i64 ti, .int .i64 ty, .int .i64 ch] 35 (0, 0))) ∧ Aside0 (wr.heap[g6]? = some (.cells #[v0, v1, .slice none 0 0, .slice none 0 0, .slice none 0 0] 27 (0, 0))) ∧ Aside0 (Rd w gr (bs.drop (o1 8 ti + 6 * k)) ((List.range k).all (ktrue (o1 8 ti) bs)) wr) ∧ Aside0 (gr < wr.heap.size)) (fun _ i _ => ty - (intOf i).toNat)
 case atStart => exact ⟨0, _, Nat.zero_le _, rfl, Kd.R_nil _ _ _ _ _, ⟨Kd.R_nil _ _ _ _ _⟩, HJ, B4, B6, HR, LTr⟩
 clear B4 B6 HR LTr h5 HJ cl
 obtain ⟨k, v0, hk, rfl, hO, HT, HJ, B4, B6, HR, LTr⟩ := hrel
 have HO := Aside0.mk hO
 clear hO
 by_cases hlt : k < ty
 ·
  have cl : decide ((k : Int) < (ty : Int)) = true := decide_eq_true (by omega)
  have HE := Aside0.mk (show 4 ≤ (bs.drop (o1 8 ti + 6 * k)).length from (by have h1_ := HN.out; have h2_ := HL.out; rw [List.length_drop]; simp only [bodyN, o1, o2, o3, o4, o5] at h1_ ⊢; omega))
  have HE2 := Aside0.mk (show 1 ≤ ((bs.drop (o1 8 ti + 6 * k)).drop 4).length from by rw [List.drop_drop]; exact (by have h1_ := HN.out; have h2_ := HL.out; rw [List.length_drop]; simp only [bodyN, o1, o2, o3, o4, o5] at h1_ ⊢; omega))
  go_upto_region 19 with fail
  refine region_Z 10 (fun w' => w'.cell? ⟨g6, 0, none⟩ = some v0) (by kernel_rfl) ?_
  refine zt 0 ((blk_cell B6.out 0).trans rfl) ?_; refine zt 1 ((blk_cell B6.out 0).trans rfl) ?_; refine zt 2 ((blk_cell B6.out 0).trans rfl) ?_; refine zt 4 ((blk_cell B6.out 0).trans rfl) ?_
  (refine wpZ_one (i := 3) (by kernel_rfl) rfl (fun K_ hK_ => ?_); go_simp; go_wp2_with (first | (go_at_call 37; (with_reducible refine (number_4 (rd_drew HR.out) HE.out).mono ?_); rintro e w7 ⟨rfl, hR1, hK1⟩; have n0_ := Aside0.mk (blk_kb (blk_drew B4.out) hK1 NE4r.out); have n1_ := Aside0.mk (blk_kb (blk_drew B6.out) hK1 NE6r.out); have n2_ := Aside0.mk (R_kb (Kd.R_drew HO.out) (rd_drew HR.out) (by decide) hK1); have n3_ := Aside0.mk (R_kb (Kd.R_drew HJ.out) (rd_drew HR.out) (by decide) hK1); have n4_ := Aside0.mk (R_kb (Kd.R_drew HT.out) (rd_drew HR.out) (by decide) hK1); have n5_ := Aside0.mk (Nat.lt_of_lt_of_le LTr.out hK1.1); have n6_ := Aside0.mk hR1; clear B4 B6 HO HJ HT LTr HR hR1 hK1; have B4 := n0_; have B6 := n1_; have HO := n2_; have HJ := n3_; have HT := n4_; have LTr := n5_; have HR := n6_; clear n0_ n1_ n2_ n3_ n4_ n5_ n6_)); refine hK_.out _ _ (fun _ => (blk_cell B6.out 0).trans rfl) ?_; clear hK_ K_; (try simp only [Act.put, List.setIfInBounds_toArray, List.set_cons_zero, List.set_cons_succ]))
  (refine wpZ_one (i := 5) (by kernel_rfl) rfl (fun K_ hK_ => ?_); go_simp; go_wp2_with (first | (go_at_call 39; (with_reducible refine (truth_c HR.out HE2.out).mono ?_); rintro e w8 ⟨rfl, hR1, hK1⟩; have n0_ := Aside0.mk (blk_kb (B4.out) hK1 NE4r.out); have n1_ := Aside0.mk (blk_kb (B6.out) hK1 NE6r.out); have n2_ := Aside0.mk (R_kb (HO.out) (HR.out) (by decide) hK1); have n3_ := Aside0.mk (R_kb (HJ.out) (HR.out) (by decide) hK1); have n4_ := Aside0.mk (R_kb (HT.out) (HR.out) (by decide) hK1); have n5_ := Aside0.mk (Nat.lt_of_lt_of_le LTr.out hK1.1); have n6_ := Aside0.mk hR1; clear B4 B6 HO HJ HT LTr HR hR1 hK1; have B4 := n0_; have B6 := n1_; have HO := n2_; have HJ := n3_; have HT := n4_; have LTr := n5_; have HR := n6_; clear n0_ n1_ n2_ n3_ n4_ n5_ n6_)); refine hK_.out _ _ (fun _ => (blk_cell B6.out 0).trans rfl) ?_; clear hK_ K_; (try simp only [Act.put, List.setIfInBounds_toArray, List.set_cons_zero, List.set_cons_succ]))
  refine zt 6 ((blk_cell B6.out 0).trans rfl) ?_
  (refine wpZ_one (i := 7) (by kernel_rfl) rfl (fun K_ hK_ => ?_); go_simp; refine hK_.out _ _ (fun _ => (blk_cell (blk_alloc B6.out _) 0).trans rfl) ?_; clear hK_ K_; (try simp only [Act.put, List.setIfInBounds_toArray, List.set_cons_zero, List.set_cons_succ]))
  simp only [List.drop_drop] at HR
  (refine wpZ_one (i := 8) (by kernel_rfl) rfl (fun K_ hK_ => ?_); refine Kd.R_append_step k56 (w0 := w8) w.heap.size rfl (.tmp 77) (.tmp 83) 22 56 (.agg #[.int .i64 0, .bool false, .string ⟨#[]⟩]) 32 rfl Try.underlying22 info_kind rfl (by decide) (by omega) v0 ((List.range k).map (kind0 (o1 8 ti) bs)) (kind0 (o1 8 ti) bs k) [.int .i64 (numU 4 (bs.drop (o1 8 ti + 6 * k))), .bool (rd (bs.drop (o1 8 ti + 6 * k + 4)) 0 == 1), .string ⟨#[]⟩] (fun _ => True) (fun _ => False) rfl rfl (k56_mkM _ _ _ (kind0 (o1 8 ti) bs k)) (fun _ h => h.elim) (fun _ _ => trivial) HO.out (Below.refl _ _) (Nat.le_of_lt (Nat.lt_of_le_of_lt HR.out.1 LTr.out)) (by simp only [List.length_map, List.length_range]; omega) ?_; intro v7 w9 ho hb hg hat; have n0_ := Aside0.mk (blk_grown B4.out hg (Kd.R_ne HO.out B4.out (by decide))); have n1_ := Aside0.mk (blk_grown B6.out hg (Kd.R_ne HO.out B6.out (by decide))); have n2_ := Aside0.mk (Kd.R_over' HJ.out (Kd.R_typed HO.out) (by decide) hg); have n3_ := Aside0.mk (Kd.R_over' HT.out (Kd.R_typed HO.out) (by decide) hg); have n4_ := Aside0.mk (Nat.lt_of_lt_of_le LTr.out hg.size); have n5_ := Aside0.mk (rd_grown HR.out HO.out (by decide) hb hg); have n6_ := Aside0.mk ho; clear B4 B6 HJ HT LTr HR HO ho hb hg hat; have B4 := n0_; have B6 := n1_; have HJ := n2_; have HT := n3_; have LTr := n4_; have HR := n5_; have HO := n6_; clear n0_ n1_ n2_ n3_ n4_ n5_ n6_; refine hK_.out _ _ (fun _ => (blk_cell B6.out 0).trans rfl) ?_; clear hK_ K_; (try simp only [Act.put, List.setIfInBounds_toArray, List.set_cons_zero, List.set_cons_succ]))
  obtain ⟨A7, c7, rfl⟩ := Kd.R_slice HO.out
  refine zt 9 ((blk_cell B6.out 0).trans rfl) ?_
  have z1 : w9.cell? ⟨g6, 0, none⟩ = some v0 := (blk_cell B6.out 0).trans rfl
  have z2 := blk_frozen B6.out 0
  (refine wpZ_one (i := 10) (by kernel_rfl) rfl (fun K_ hK_ => ?_); go_simp; refine hK_.out _ _ (fun h => absurd rfl h) ?_; clear hK_ K_; (try simp only [Act.put, List.setIfInBounds_toArray, List.set_cons_zero, List.set_cons_succ]))
  refine wpZ_done (by kernel_rfl) ?_ _
  clear z1 z2
  obtain ⟨vk, hvk⟩ : ∃ x, x = Value.slice A7 ((List.range k).map (kind0 (o1 8 ti) bs) ++ [kind0 (o1 8 ti) bs k]).length c7 := ⟨_, rfl⟩
  rw [← hvk] at HO
  have hvk2 : Value.slice A7 (k + 1) c7 = vk := by rw [hvk]; simp
  try rw [hvk2]
  try rw [← hvk]
  clear hvk hvk2
  have n0_ := Aside0.mk (show (w9.setCell ⟨g6, 0, none⟩ vk).heap[g4]? = _ from blk_far B4.out NE46.out _); have n1_ := Aside0.mk (show (w9.setCell ⟨g6, 0, none⟩ vk).heap[g6]? = some (.cells #[vk, v1, .slice none 0 0, .slice none 0 0, .slice none 0 0] 27 (0, 0)) from blk_put B6.out 0 _ rfl); have n2_ := Aside0.mk (Kd.R_set HO.out B6.out (by decide) 0 vk); have n3_ := Aside0.mk (Kd.R_set HT.out B6.out (by decide) 0 vk); have n4_ := Aside0.mk (Kd.R_set HJ.out B6.out (by decide) 0 vk); have n5_ := Aside0.mk (rd_set HR.out NE6r.out GEg6.out 0 vk); have n6_ := Aside0.mk (show gr < (w9.setCell ⟨g6, 0, none⟩ vk).heap.size by rw [World.size_setCell]; exact LTr.out); clear B4 B6 HO HT HJ HR LTr; obtain ⟨w10, hwc_⟩ : ∃ x, x = (w9.setCell ⟨g6, 0, none⟩ vk) := ⟨_, rfl⟩; rw [← hwc_] at n0_ n1_ n2_ n3_ n4_ n5_ n6_ ⊢; clear hwc_; have B4 := n0_; have B6 := n1_; have HO := n2_; have HT := n3_; have HJ := n4_; have HR := n5_; have LTr := n6_; clear n0_ n1_ n2_ n3_ n4_ n5_ n6_
  clear HE HE2
  have HE := Aside0.mk (show 1 ≤ (bs.drop (o1 8 ti + 6 * k + 4 + 1)).length from (by have h1_ := HN.out; have h2_ := HL.out; rw [List.length_drop]; simp only [bodyN, o1, o2, o3, o4, o5] at h1_ ⊢; omega))
  go_wp2_with (first
   | (go_at_call 38; (with_reducible refine (take_1 HR.out HE.out).mono ?_); rintro e w11 ⟨ad, c8, rfl, hx0, hR1, hK1⟩; have n0_ := Aside0.mk (blk_kb (B4.out) hK1 NE4r.out); have n1_ := Aside0.mk (blk_kb (B6.out) hK1 NE6r.out); have n2_ := Aside0.mk (R_kb (HO.out) (HR.out) (by decide) hK1); have n3_ := Aside0.mk (R_kb (HJ.out) (HR.out) (by decide) hK1); have n4_ := Aside0.mk (R_kb (HT.out) (HR.out) (by decide) hK1); have n5_ := Aside0.mk (Nat.lt_of_lt_of_le LTr.out hK1.1); have n6_ := Aside0.mk hR1; clear B4 B6 HO HJ HT LTr HR hR1 hK1; have B4 := n0_; have B6 := n1_; have HO := n2_; have HJ := n3_; have HT := n4_; have LTr := n5_; have HR := n6_; clear n0_ n1_ n2_ n3_ n4_ n5_ n6_)
   | ((with_reducible refine gate_builtin (b := .append) (xs := #[.tmp 86, .tmp 92]) rfl ?_); at_builtin; refine Kd.R_append (Kd.int .i64) (w0 := w11) w.heap.size rfl (.tmp 86) (.tmp 92) 62 3 (.int .i64 0) 8 rfl Try.underlying62 info_int rfl (by decide) (by omega) u11 ((List.range k).map (kat (o1 8 ti) bs)) (wrap64 (rd (bs.drop (o1 8 ti + 6 * k + 4 + 1)) 0)) [.int .i64 (wrap64 (rd (bs.drop (o1 8 ti + 6 * k + 4 + 1)) 0))] (fun _ => True) (fun _ => False) rfl rfl rfl (fun _ h => h.elim) (fun _ _ => trivial) HT.out (Below.refl _ _) (Nat.le_of_lt (Nat.lt_of_le_of_lt HR.out.1 LTr.out)) (by simp only [List.length_map, List.length_range]; omega) ?_; intro v7 w12 ho hb hg hat; have n0_ := Aside0.mk (blk_grown B4.out hg (Kd.R_ne HT.out B4.out (by decide))); have n1_ := Aside0.mk (blk_grown B6.out hg (Kd.R_ne HT.out B6.out (by decide))); have n2_ := Aside0.mk (Kd.R_over' HO.out (Kd.R_typed HT.out) (by decide) hg); have n3_ := Aside0.mk (Kd.R_over' HJ.out (Kd.R_typed HT.out) (by decide) hg); have n4_ := Aside0.mk (Nat.lt_of_lt_of_le LTr.out hg.size); have n5_ := Aside0.mk (rd_grown HR.out HT.out (by decide) hb hg); have n6_ := Aside0.mk ho; clear B4 B6 HO HJ LTr HR HT ho hb hg hat; have B4 := n0_; have B6 := n1_; have HO := n2_; have HJ := n3_; have LTr := n4_; have HR := n5_; have HT := n6_; clear n0_ n1_ n2_ n3_ n4_ n5_ n6_))
  go_roundw
  case rel =>
   refine ⟨k + 1, vk, by omega, by go_num, ?_, ⟨?_⟩, HJ, B4, B6, ⟨?_⟩, LTr⟩
   ·
    rw [map_snoc]
    exact HO.out
   ·
    rw [map_snoc]
    exact HT.out
   have h := HR.out
   rw [List.drop_drop] at h
   rw [all_snoc]
   exact h
  case measure => simp [intOf]; omega
 have hkt : ty = k := by omega
 subst hkt
 have cl : decide ((ty : Int) < (ty : Int)) = false := decide_eq_false (by omega)
 obtain ⟨A2, c2, rfl⟩ := Kd.R_slice HO.out
 have hl2 : ((List.range ty).map (kind0 (o1 8 ti) bs)).length = ty := by simp
 rw [hl2] at HO B6
 obtain ⟨A3, c3, rfl⟩ := Kd.R_slice HT.out
 have hl3 : ((List.range ty).map (kat (o1 8 ti) bs)).length = ty := by simp
 rw [hl3] at HT ⊢
 clear hl2 hl3 hlt hk
 have HE := Aside0.mk (show ch ≤ (bs.drop (o1 8 ti + 6 * ty)).length from (by have h1_ := HN.out; have h2_ := HL.out; rw [List.length_drop]; simp only [bodyN, o1, o2, o3, o4, o5] at h1_ ⊢; omega))
 have h6 : wr.cell? ⟨g4, 6, none⟩ = some (.int .i64 ch) := (blk_cell B4.out 6).trans rfl
 go_upto_region 23 with (go_at_call 38; (with_reducible refine (take_c HR.out ch HE.out).mono ?_); rintro e w20 ⟨A4, c4, rfl, hC4, hc4, hR1, hK1⟩; have n0_ := Aside0.mk (blk_kb (B4.out) hK1 NE4r.out); have n1_ := Aside0.mk (blk_kb (B6.out) hK1 NE6r.out); have n2_ := Aside0.mk (R_kb (HO.out) (HR.out) (by decide) hK1); have n3_ := Aside0.mk (R_kb (HJ.out) (HR.out) (by decide) hK1); have n4_ := Aside0.mk (R_kb (HT.out) (HR.out) (by decide) hK1); have n5_ := Aside0.mk (Nat.lt_of_lt_of_le LTr.out hK1.1); have n6_ := Aside0.mk hR1; clear B4 B6 HO HJ HT LTr HR hR1 hK1; have B4 := n0_; have B6 := n1_; have HO := n2_; have HJ := n3_; have HT := n4_; have LTr := n5_; have HR := n6_; clear n0_ n1_ n2_ n3_ n4_ n5_ n6_)
 obtain ⟨ns, hns⟩ : ∃ x, x = dNs 8 ti ty ch bs := ⟨_, rfl⟩
 have hnl : ns.length = ch := by
  rw [hns]
  unfold dNs o2
  have h := HE.out
  rw [List.length_take]
  omega
 have HC4 := Aside0.mk (show Kd.C (Kd.int .u8) w A4 ns.length ns by rw [hnl, hns]; exact hC4)
 have HNS := Aside0.mk hns
 have HNL := Aside0.mk hnl
 have HCC := Aside0.mk hc4
 rw [List.drop_drop] at HR
 rw [← kl_zero (o1 8 ti) ty ns bs] at HO
 have hok0 : (List.range ty).all (ktrue (o1 8 ti) bs) = ((List.range ty).all (ktrue (o1 8 ti) bs) && (List.range 0).all (kname (o1 8 ti) ns bs)) := by simp
 rw [hok0] at HR
 clear hC4 hc4 hns hnl HE hok0 h6 cl
 go_wp2
 go_loopw [101] (fun i wr => ∃ (k : Nat), k ≤ ty ∧ i = .int .i64 k ∧ Kd.R k56 56 wr w.heap.size (fun _ => True) (.slice A2 ty c2) (kl (o1 8 ti) ty ns bs k) ∧ Aside0 (Kd.R (Kd.int .i64) 3 wr w.heap.size (fun _ => True) (.slice A3 ty c3) ((List.range ty).map (kat (o1 8 ti) bs))) ∧ Aside0 (Kd.R k54 54 wr w.heap.size (fun _ => True) v1 (dJ 8 ti bs)) ∧ Aside0 (wr.heap[g4]? = some (.cells #[.int .i64 v, .int .i64 ut, .int .i64 sd, .int .i64 le, .int .i64 ti, .int .i64 ty, .int .i64 ch] 35 (0, 0))) ∧ Aside0 (wr.heap[g6]? = some (.cells #[.slice A2 ty c2, v1, .slice none 0 0, .slice none 0 0, .slice none 0 0] 27 (0, 0))) ∧ Aside0 (Rd w gr (bs.drop (o1 8 ti + 6 * ty + ch)) ((List.range ty).all (ktrue (o1 8 ti) bs) && (List.range k).all (kname (o1 8 ti) ns bs)) wr) ∧ Aside0 (gr < wr.heap.size)) (fun i _ => ty - (intOf i).toNat)
 case atStart => exact ⟨0, Nat.zero_le _, rfl, HO.out, HT, HJ, B4, B6, HR, LTr⟩
 clear B4 B6 HR LTr HJ HO HT
 obtain ⟨k, hk, rfl, hO, HT, HJ, B4, B6, HR, LTr⟩ := hrel
 have HO := Aside0.mk hO
 clear hO
 by_cases hlt : k < ty
 ·
  have cl : decide ((k : Int) < (ty : Int)) = true := decide_eq_true (by omega)
  have ck0 : decide (0 ≤ (k : Int)) = true := decide_eq_true (by omega)
  obtain ⟨ada, e1, hxa⟩ := Kd.at_int (Kd.R_reads' HT.out).2.2 (k : Int) (by omega) (by rw [List.length_map, List.length_range]; omega)
  subst e1
  rw [rdm _ ty k hlt] at hxa
  simp only [Int.toNat_natCast] at hxa
  obtain ⟨g, cap, hv, _, hg0, cells, hcells⟩ := Kd.R_form HO.out (by rw [kl_len]; omega)
  rw [kl_len] at hv
  injection hv with e1 _ e3
  subst e1
  subst e3
  have HNm := Aside0.mk (octets_Name.calls A4 c4 ns (kat (o1 8 ti) bs k) (nameI ns (kat (o1 8 ti) bs k)).1 (nameI ns (kat (o1 8 ti) bs k)).2 wr.drew (Kd.C_below HC4.out (rd_drew HR.out).2.1) (by rw [HNL.out]; exact HCC.out) (name_f ns (kat (o1 8 ti) bs k)))
  rw [HNL.out] at HNm
  have HKN := Aside0.mk (show kname (o1 8 ti) ns bs k = (nameI ns (kat (o1 8 ti) bs k)).2 from rfl)
  have HKS := Aside0.mk (kl_set (o1 8 ti) ty ns bs k hlt)
  obtain ⟨nm, hnm⟩ : ∃ x, x = nameI ns (kat (o1 8 ti) bs k) := ⟨_, rfl⟩
  rw [← hnm] at HNm HKN HKS
  clear hnm
  obtain ⟨nm, nok⟩ := nm
  go_upto_region 27 with fail
  clear hxa
  refine region_Z 99 (fun w' => w'.cell? ⟨g6, 0, none⟩ = some (.slice (some ⟨g, 0, none⟩) ty c2)) (by kernel_rfl) ?_
  refine zt 0 ((blk_cell B6.out 0).trans rfl) ?_; refine zt 1 ((blk_cell B6.out 0).trans rfl) ?_; refine zt 2 ((blk_cell B6.out 0).trans rfl) ?_; refine zt 3 ((blk_cell B6.out 0).trans rfl) ?_; refine zt 4 ((blk_cell B6.out 0).trans rfl) ?_
  (refine wpZ_one (i := 5) (by kernel_rfl) rfl (fun K_ hK_ => ?_); go_simp; go_wp2_with (first | (go_at_call 40; (with_reducible refine (HNm.out).mono ?_); rintro e w7 ⟨rfl, hb⟩; have n0_ := Aside0.mk (blk_below (blk_drew B4.out) hb); have n1_ := Aside0.mk (blk_below (blk_drew B6.out) hb); have n2_ := Aside0.mk (Kd.R_below (Kd.R_drew HO.out) hb); have n3_ := Aside0.mk (Kd.R_below (Kd.R_drew HJ.out) hb); have n4_ := Aside0.mk (Kd.R_below (Kd.R_drew HT.out) hb); have n5_ := Aside0.mk ((rd_drew HR.out).keep (below_step (rd_drew HR.out).2.1 hb) (hb.block gr LTr.out)); have n6_ := Aside0.mk (Nat.lt_of_lt_of_le LTr.out hb.size); clear B4 B6 HO HJ HT HR LTr hb; have B4 := n0_; have B6 := n1_; have HO := n2_; have HJ := n3_; have HT := n4_; have HR := n5_; have LTr := n6_; clear n0_ n1_ n2_ n3_ n4_ n5_ n6_)); refine hK_.out _ _ (fun _ => (blk_cell B6.out 0).trans rfl) ?_; clear hK_ K_; (try simp only [Act.put, List.setIfInBounds_toArray, List.set_cons_zero, List.set_cons_succ]))
  refine zt 6 ((blk_cell B6.out 0).trans rfl) ?_; refine zt 7 ((blk_cell B6.out 0).trans rfl) ?_; refine zt 8 ((blk_cell B6.out 0).trans rfl) ?_
  obtain ⟨HS1, HS2, ⟨u0, hz1⟩, hz2⟩ := kind_put HO.out k hlt nm
  have HS := Aside0.mk HS1
  have HG := Aside0.mk HS2
  clear HS1 HS2
  (refine wpZ_one (i := 9) (by kernel_rfl) rfl (fun K_ hK_ => ?_); go_simp; refine hK_.out _ _ (fun _ => (blk_cell B6.out 0).trans rfl) ?_; clear hK_ K_; (try simp only [Act.put, List.setIfInBounds_toArray, List.set_cons_zero, List.set_cons_succ]))
  (refine wpZ_one (i := 10) (by kernel_rfl) rfl (fun K_ hK_ => ?_); go_simp; refine hK_.out _ _ (fun _ => (blk_cell B6.out 0).trans rfl) ?_; clear hK_ K_; (try simp only [Act.put, List.setIfInBounds_toArray, List.set_cons_zero, List.set_cons_succ]))
  have hn6 : g6 ≠ g := fun e => Kd.R_ne HO.out B6.out (by decide) (by rw [e]; simp [Value.ownBlock])
  have hn4 : g4 ≠ g := fun e => Kd.R_ne HO.out B4.out (by decide) (by rw [e]; simp [Value.ownBlock])
  obtain ⟨cells7, hcells7⟩ := Kd.R_typed HO.out g (by simp [Value.ownBlock])
  have hge := Kd.R_base HO.out g (by simp [Value.ownBlock])
  have HC7 := Aside0.mk (And.intro hcells7 hge)
  clear hcells7 hge
  (refine wpZ_one (i := 11) (by kernel_rfl) rfl (fun K_ hK_ => ?_); go_simp; refine hK_.out _ _ (fun _ => (blk_cell (blk_far B6.out hn6 _) 0).trans rfl) ?_; clear hK_ K_; (try simp only [Act.put, List.setIfInBounds_toArray, List.set_cons_zero, List.set_cons_succ]))
  (refine wpZ_one (i := 12) (by kernel_rfl) rfl (fun K_ hK_ => ?_); go_simp; refine hK_.out _ _ (fun _ => (blk_cell (blk_far B6.out hn6 _) 0).trans rfl) ?_; clear hK_ K_; (try simp only [Act.put, List.setIfInBounds_toArray, List.set_cons_zero, List.set_cons_succ]))
  refine wpZ_done (by kernel_rfl) ?_ _
  clear hz1 hz2
  obtain ⟨w8, hw8⟩ : ∃ x, x = w7.setCell ⟨g, k * 3 + 2, none⟩ (.string nm) := ⟨_, rfl⟩
  have n1_ := Aside0.mk (blk_far (p := ⟨g, k * 3 + 2, none⟩) B4.out hn4 (.string nm))
  have n2_ := Aside0.mk (blk_far (p := ⟨g, k * 3 + 2, none⟩) B6.out hn6 (.string nm))
  have n3_ := Aside0.mk (rd_grow HR.out HG.out HC7.out.1 (by decide) HC7.out.2)
  have n4_ := Aside0.mk (Kd.R_over' HT.out (Kd.R_typed HO.out) (by decide) HG.out)
  have n5_ := Aside0.mk (Kd.R_over' HJ.out (Kd.R_typed HO.out) (by decide) HG.out)
  have n6_ := Aside0.mk (Nat.lt_of_lt_of_le LTr.out HG.out.size)
  rw [← hw8] at n1_ n2_ n3_ n4_ n5_ n6_ HS ⊢
  clear hw8 B4 B6 HR HT HJ LTr HO HG HC7 hn6 hn4 hcells
  have B4 := n1_
  have B6 := n2_
  have HR := n3_
  have HT := n4_
  have HJ := n5_
  have LTr := n6_
  clear n1_ n2_ n3_ n4_ n5_ n6_
  obtain ⟨okk, hokk⟩ : ∃ x, x = ((List.range ty).all (ktrue (o1 8 ti) bs) && (List.range k).all (kname (o1 8 ti) ns bs)) := ⟨_, rfl⟩
  rw [← hokk] at HR
  have HOKK := Aside0.mk hokk
  clear hokk
  obtain ⟨q1, q2, A5, c5, hblk, q3, q4⟩ := HR.out
  have hf1 := blk_frozen hblk 1
  have hc1 : w8.cell? ⟨gr, 1, none⟩ = some (.bool okk) := (blk_cell hblk 1).trans rfl
  have HQ := Aside0.mk (And.intro q1 (And.intro q2 (And.intro q3 q4)))
  have HBK := Aside0.mk hblk
  clear q1 q2 q3 q4 hblk HR
  cases okk
  all_goals
   go_wp2
   go_roundw
   case rel =>
    obtain ⟨q1, q2, q3, q4⟩ := HQ.out
    refine ⟨k + 1, by omega, by go_num, ?_, ⟨R_setb HT.out HBK.out (by decide) 1 _⟩, ⟨R_setb HJ.out HBK.out (by decide) 1 _⟩, ⟨blk_far B4.out NE4r.out _⟩, ⟨blk_far B6.out NE6r.out _⟩, ⟨⟨q1, below_set q2 q1, A5, c5, ?_, q3, q4⟩⟩, ⟨by rw [World.size_setCell]; exact LTr.out⟩⟩
    ·
     rw [← HKS.out]
     exact R_setb HS.out HBK.out (by decide) 1 _
    rw [all_snoc, ← Bool.and_assoc, ← HOKK.out, HKN.out]
    exact blk_put HBK.out 1 _ rfl
   case measure => simp [intOf]; omega
 have hkt : ty = k := by omega
 subst hkt
 have cl : decide ((ty : Int) < (ty : Int)) = false := decide_eq_false (by omega)
 rw [kl_all, HNS.out] at HO
 rw [HNS.out] at HR
 have hoff : o1 8 ti + 6 * ty + ch = o3 8 ti ty ch + (8 + 4) * 0 := by unfold o3 o2; omega
 rw [hoff] at HR
 have HK := Aside0.mk (show Kd.R k56 56 wr w.heap.size (fun _ => True) (.slice A2 ty c2) (dK 8 ti ty ch bs) from HO.out)
 obtain ⟨v0, hv0⟩ : ∃ x, x = Value.slice A2 ty c2 := ⟨_, rfl⟩
 rw [← hv0] at HK B6
 obtain ⟨okk, hokk⟩ : ∃ x, x = ((List.range ty).all (ktrue (o1 8 ti) bs) && (List.range ty).all (kname (o1 8 ti) (dNs 8 ti ty ch bs) bs)) := ⟨_, rfl⟩
 rw [← hokk] at HR
 have HOKK := Aside0.mk hokk
 have h3 : wr.cell? ⟨g4, 3, none⟩ = some (.int .i64 le) := (blk_cell B4.out 3).trans rfl
 clear hv0 hokk hoff HO HC4 HNS HNL HCC HT hlt hk
 go_wp2
 go_loopw [130] (fun i wr => ∃ (k : Nat) (v2 : Value), k ≤ le ∧ i = .int .i64 k ∧ Kd.R k67 67 wr w.heap.size (fun _ => True) v2 ((List.range k).map (leap1 8 (o3 8 ti ty ch) bs)) ∧ Aside0 (Kd.R k56 56 wr w.heap.size (fun _ => True) v0 (dK 8 ti ty ch bs)) ∧ Aside0 (Kd.R k54 54 wr w.heap.size (fun _ => True) v1 (dJ 8 ti bs)) ∧ Aside0 (wr.heap[g4]? = some (.cells #[.int .i64 v, .int .i64 ut, .int .i64 sd, .int .i64 le, .int .i64 ti, .int .i64 ty, .int .i64 ch] 35 (0, 0))) ∧ Aside0 (wr.heap[g6]? = some (.cells #[v0, v1, v2, .slice none 0 0, .slice none 0 0] 27 (0, 0))) ∧ Aside0 (Rd w gr (bs.drop (o3 8 ti ty ch + (8 + 4) * k)) okk wr) ∧ Aside0 (gr < wr.heap.size)) (fun i _ => le - (intOf i).toNat)
 case atStart => exact ⟨0, _, Nat.zero_le _, rfl, Kd.R_nil _ _ _ _ _, HK, HJ, B4, B6, HR, LTr⟩
 clear B4 B6 HR LTr HK HJ h3 cl
 obtain ⟨k, v2, hk, rfl, hO, HK, HJ, B4, B6, HR, LTr⟩ := hrel
 have HO := Aside0.mk hO
 clear hO
 by_cases hlt : k < le
 ·
  have cl : decide ((k : Int) < (le : Int)) = true := decide_eq_true (by omega)
  have HE := Aside0.mk (show 8 ≤ (bs.drop (o3 8 ti ty ch + (8 + 4) * k)).length from (by have h1_ := HN.out; have h2_ := HL.out; rw [List.length_drop]; simp only [bodyN, o1, o2, o3, o4, o5] at h1_ ⊢; omega))
  have HE2 := Aside0.mk (show 4 ≤ ((bs.drop (o3 8 ti ty ch + (8 + 4) * k)).drop 8).length from by rw [List.drop_drop]; exact (by have h1_ := HN.out; have h2_ := HL.out; rw [List.length_drop]; simp only [bodyN, o1, o2, o3, o4, o5] at h1_ ⊢; omega))
  go_upto_region 32 with fail
  refine region_Z 11 (fun w' => w'.cell? ⟨g6, 2, none⟩ = some v2) (by kernel_rfl) ?_
  refine zt 0 ((blk_cell B6.out 2).trans rfl) ?_; refine zt 1 ((blk_cell B6.out 2).trans rfl) ?_; refine zt 2 ((blk_cell B6.out 2).trans rfl) ?_; refine zt 3 ((blk_cell B6.out 2).trans rfl) ?_; refine zt 5 ((blk_cell B6.out 2).trans rfl) ?_
  (refine wpZ_one (i := 4) (by kernel_rfl) rfl (fun K_ hK_ => ?_); go_simp; go_wp2_with (first | (go_at_call 37; (with_reducible refine (number_8 (rd_drew HR.out) HE.out).mono ?_); rintro e w7 ⟨rfl, hR1, hK1⟩; have n0_ := Aside0.mk (blk_kb (blk_drew B4.out) hK1 NE4r.out); have n1_ := Aside0.mk (blk_kb (blk_drew B6.out) hK1 NE6r.out); have n2_ := Aside0.mk (R_kb (Kd.R_drew HO.out) (rd_drew HR.out) (by decide) hK1); have n3_ := Aside0.mk (R_kb (Kd.R_drew HJ.out) (rd_drew HR.out) (by decide) hK1); have n4_ := Aside0.mk (R_kb (Kd.R_drew HK.out) (rd_drew HR.out) (by decide) hK1); have n5_ := Aside0.mk (Nat.lt_of_lt_of_le LTr.out hK1.1); have n6_ := Aside0.mk hR1; clear B4 B6 HO HJ HK LTr HR hR1 hK1; have B4 := n0_; have B6 := n1_; have HO := n2_; have HJ := n3_; have HK := n4_; have LTr := n5_; have HR := n6_; clear n0_ n1_ n2_ n3_ n4_ n5_ n6_)); refine hK_.out _ _ (fun _ => (blk_cell B6.out 2).trans rfl) ?_; clear hK_ K_; (try simp only [Act.put, List.setIfInBounds_toArray, List.set_cons_zero, List.set_cons_succ]))
  (refine wpZ_one (i := 6) (by kernel_rfl) rfl (fun K_ hK_ => ?_); go_simp; go_wp2_with (first | (go_at_call 37; (with_reducible refine (number_4 HR.out HE2.out).mono ?_); rintro e w8 ⟨rfl, hR1, hK1⟩; have n0_ := Aside0.mk (blk_kb (B4.out) hK1 NE4r.out); have n1_ := Aside0.mk (blk_kb (B6.out) hK1 NE6r.out); have n2_ := Aside0.mk (R_kb (HO.out) (HR.out) (by decide) hK1); have n3_ := Aside0.mk (R_kb (HJ.out) (HR.out) (by decide) hK1); have n4_ := Aside0.mk (R_kb (HK.out) (HR.out) (by decide) hK1); have n5_ := Aside0.mk (Nat.lt_of_lt_of_le LTr.out hK1.1); have n6_ := Aside0.mk hR1; clear B4 B6 HO HJ HK LTr HR hR1 hK1; have B4 := n0_; have B6 := n1_; have HO := n2_; have HJ := n3_; have HK := n4_; have LTr := n5_; have HR := n6_; clear n0_ n1_ n2_ n3_ n4_ n5_ n6_)); refine hK_.out _ _ (fun _ => (blk_cell B6.out 2).trans rfl) ?_; clear hK_ K_; (try simp only [Act.put, List.setIfInBounds_toArray, List.set_cons_zero, List.set_cons_succ]))
  refine zt 7 ((blk_cell B6.out 2).trans rfl) ?_
  (refine wpZ_one (i := 8) (by kernel_rfl) rfl (fun K_ hK_ => ?_); go_simp; refine hK_.out _ _ (fun _ => (blk_cell (blk_alloc B6.out _) 2).trans rfl) ?_; clear hK_ K_; (try simp only [Act.put, List.setIfInBounds_toArray, List.set_cons_zero, List.set_cons_succ]))
  simp only [List.drop_drop] at HR
  (refine wpZ_one (i := 9) (by kernel_rfl) rfl (fun K_ hK_ => ?_); refine Kd.R_append_step k67 (w0 := w8) w.heap.size rfl (.tmp 133) (.tmp 140) 24 67 (.agg #[.int .i64 0, .int .i64 0]) 16 rfl Try.underlying24 info_leap rfl (by decide) (by omega) v2 ((List.range k).map (leap1 8 (o3 8 ti ty ch) bs)) (leap1 8 (o3 8 ti ty ch) bs k) [.int .i64 (numU 8 (bs.drop (o3 8 ti ty ch + (8 + 4) * k))), .int .i64 (numU 4 (bs.drop (o3 8 ti ty ch + (8 + 4) * k + 8)))] (fun _ => True) (fun _ => False) rfl rfl (k67_mkM _ _ _ (leap1 8 (o3 8 ti ty ch) bs k)) (fun _ h => h.elim) (fun _ _ => trivial) HO.out (Below.refl _ _) (Nat.le_of_lt (Nat.lt_of_le_of_lt HR.out.1 LTr.out)) (by simp only [List.length_map, List.length_range]; omega) ?_; intro v7 w9 ho hb hg hat; have n0_ := Aside0.mk (blk_grown B4.out hg (Kd.R_ne HO.out B4.out (by decide))); have n1_ := Aside0.mk (blk_grown B6.out hg (Kd.R_ne HO.out B6.out (by decide))); have n2_ := Aside0.mk (Kd.R_over' HJ.out (Kd.R_typed HO.out) (by decide) hg); have n3_ := Aside0.mk (Kd.R_over' HK.out (Kd.R_typed HO.out) (by decide) hg); have n4_ := Aside0.mk (Nat.lt_of_lt_of_le LTr.out hg.size); have n5_ := Aside0.mk (rd_grown HR.out HO.out (by decide) hb hg); have n6_ := Aside0.mk ho; clear B4 B6 HJ HK LTr HR HO ho hb hg hat; have B4 := n0_; have B6 := n1_; have HJ := n2_; have HK := n3_; have LTr := n4_; have HR := n5_; have HO := n6_; clear n0_ n1_ n2_ n3_ n4_ n5_ n6_; refine hK_.out _ _ (fun _ => (blk_cell B6.out 2).trans rfl) ?_; clear hK_ K_; (try simp only [Act.put, List.setIfInBounds_toArray, List.set_cons_zero, List.set_cons_succ]))
  obtain ⟨A7, c7, rfl⟩ := Kd.R_slice HO.out
  refine zt 10 ((blk_cell B6.out 2).trans rfl) ?_
  have z1 : w9.cell? ⟨g6, 2, none⟩ = some v2 := (blk_cell B6.out 2).trans rfl
  have z2 := blk_frozen B6.out 2
  (refine wpZ_one (i := 11) (by kernel_rfl) rfl (fun K_ hK_ => ?_); go_simp; refine hK_.out _ _ (fun h => absurd rfl h) ?_; clear hK_ K_; (try simp only [Act.put, List.setIfInBounds_toArray, List.set_cons_zero, List.set_cons_succ]))
  refine wpZ_done (by kernel_rfl) ?_ _
  clear z1 z2
  go_wp2
  go_roundw
  case rel =>
   refine ⟨k + 1, _, by omega, by go_num, ?_, ⟨Kd.R_set HK.out B6.out (by decide) 2 _⟩, ⟨Kd.R_set HJ.out B6.out (by decide) 2 _⟩, ⟨blk_far B4.out NE46.out _⟩, ⟨blk_put B6.out 2 _ rfl⟩, ⟨?_⟩, ⟨by rw [World.size_setCell]; exact LTr.out⟩⟩
   ·
    rw [map_snoc]
    have h := Kd.R_set HO.out B6.out (by decide) 2
    first | exact h _ | (simp only [List.length_append, List.length_map, List.length_range, List.length_cons, List.length_nil] at h ⊢; exact h _)
   have h := rd_set HR.out NE6r.out GEg6.out 2
   exact (show o3 8 ti ty ch + (8 + 4) * k + 8 + 4 = o3 8 ti ty ch + (8 + 4) * (k + 1) by omega) ▸ h _
  case measure => simp [intOf]; omega
 have hkt : le = k := by omega
 subst hkt
 have cl : decide ((le : Int) < (le : Int)) = false := decide_eq_false (by omega)
 have hoff : o3 8 ti ty ch + (8 + 4) * le = o4 8 le ti ty ch := by unfold o4; rfl
 rw [hoff] at HR
 have HLp := Aside0.mk (show Kd.R k67 67 wr w.heap.size (fun _ => True) v2 (dL 8 le ti ty ch bs) from HO.out)
 clear hoff HO hlt hk
 have h2 : wr.cell? ⟨g4, 2, none⟩ = some (.int .i64 sd) := (blk_cell B4.out 2).trans rfl
 have HE := Aside0.mk (show sd ≤ (bs.drop (o4 8 le ti ty ch)).length from (by have h1_ := HN.out; have h2_ := HL.out; rw [List.length_drop]; simp only [bodyN, o1, o2, o3, o4, o5] at h1_ ⊢; omega))
 have HLE := Aside0.mk (show w.heap.size ≤ wr.heap.size from Nat.le_of_lt (Nat.lt_of_le_of_lt HR.out.1 LTr.out))
 have HSD := Aside0.mk (show sd ≤ 1000000 by omega)
 have HUT := Aside0.mk (show ut ≤ 1000000 by omega)
 have HENC := Aside0.mk (encOK_d 8 ut sd le ti ty ch bs hbd)
 go_upto_region 35 with (go_at_call 41; (with_reducible refine (marks_c HR.out LTr.out sd HE.out HSD.out).mono ?_); rintro e w21 ⟨v3, rfl, hS, hR1, hK1⟩; replace hS := (show Kd.R Kd.bool 4 w21 wr.heap.size (fun _ => True) v3 (isOne (dS 8 sd le ti ty ch bs)) from hS); obtain ⟨A8, c8, rfl⟩ := Kd.R_slice hS; have n0_ := Aside0.mk (blk_kb (B4.out) hK1 NE4r.out); have n1_ := Aside0.mk (blk_kb (B6.out) hK1 NE6r.out); have n2_ := Aside0.mk (R_kb (HK.out) (HR.out) (by decide) hK1); have n3_ := Aside0.mk (R_kb (HJ.out) (HR.out) (by decide) hK1); have n4_ := Aside0.mk (R_kb (HLp.out) (HR.out) (by decide) hK1); have n5_ := Aside0.mk (Nat.lt_of_lt_of_le LTr.out hK1.1); have n6_ := Aside0.mk hR1; clear B4 B6 HK HJ HLp LTr HR hR1 hK1; have B4 := n0_; have B6 := n1_; have HK := n2_; have HJ := n3_; have HLp := n4_; have LTr := n5_; have HR := n6_; clear n0_ n1_ n2_ n3_ n4_ n5_ n6_; have HS := Aside0.mk (Kd.R_lower hS HLE.out); clear hS; have z1 : w21.cell? ⟨g6, 3, none⟩ = some (.slice none 0 0) := (blk_cell B6.out 3).trans rfl; have z2 := blk_frozen B6.out 3)
 clear z1 z2 h2 HE HLE
 have n0_ := Aside0.mk (show (w21.setCell ⟨g6, 3, none⟩ (.slice A8 (isOne (dS 8 sd le ti ty ch bs)).length c8)).heap[g4]? = _ from blk_far B4.out NE46.out _); have n1_ := Aside0.mk (show (w21.setCell ⟨g6, 3, none⟩ (.slice A8 (isOne (dS 8 sd le ti ty ch bs)).length c8)).heap[g6]? = some (.cells #[v0, v1, v2, .slice A8 (isOne (dS 8 sd le ti ty ch bs)).length c8, .slice none 0 0] 27 (0, 0)) from blk_put B6.out 3 _ rfl); have n2_ := Aside0.mk (Kd.R_set HK.out B6.out (by decide) 3 (.slice A8 (isOne (dS 8 sd le ti ty ch bs)).length c8)); have n3_ := Aside0.mk (Kd.R_set HJ.out B6.out (by decide) 3 (.slice A8 (isOne (dS 8 sd le ti ty ch bs)).length c8)); have n4_ := Aside0.mk (Kd.R_set HLp.out B6.out (by decide) 3 (.slice A8 (isOne (dS 8 sd le ti ty ch bs)).length c8)); have n5_ := Aside0.mk (Kd.R_set HS.out B6.out (by decide) 3 (.slice A8 (isOne (dS 8 sd le ti ty ch bs)).length c8)); have n6_ := Aside0.mk (rd_set HR.out NE6r.out GEg6.out 3 (.slice A8 (isOne (dS 8 sd le ti ty ch bs)).length c8)); have n7_ := Aside0.mk (show gr < (w21.setCell ⟨g6, 3, none⟩ (.slice A8 (isOne (dS 8 sd le ti ty ch bs)).length c8)).heap.size by rw [World.size_setCell]; exact LTr.out); clear B4 B6 HK HJ HLp HS HR LTr; obtain ⟨w22, hwc_⟩ : ∃ x, x = (w21.setCell ⟨g6, 3, none⟩ (.slice A8 (isOne (dS 8 sd le ti ty ch bs)).length c8)) := ⟨_, rfl⟩; rw [← hwc_] at n0_ n1_ n2_ n3_ n4_ n5_ n6_ n7_ ⊢; clear hwc_; have B4 := n0_; have B6 := n1_; have HK := n2_; have HJ := n3_; have HLp := n4_; have HS := n5_; have HR := n6_; have LTr := n7_; clear n0_ n1_ n2_ n3_ n4_ n5_ n6_ n7_
 obtain ⟨N, hN⟩ : ∃ x, x = w22.heap.size := ⟨_, rfl⟩
 have HS2 := Aside0.mk (show Kd.R Kd.bool 4 w22 w.heap.size (fun k => k < N) (.slice A8 (isOne (dS 8 sd le ti ty ch bs)).length c8) (isOne (dS 8 sd le ti ty ch bs)) from Kd.R_mono (Kd.R_bound HS.out) (fun k hk => by rw [hN]; exact hk.2.2.1))
 have HNN := Aside0.mk hN
 clear HS hN
 rw [show o4 8 le ti ty ch = o4 8 le ti ty ch + 0 from rfl, List.drop_drop] at HR
 have h1 : w22.cell? ⟨g4, 1, none⟩ = some (.int .i64 ut) := (blk_cell B4.out 1).trans rfl
 have HR2 := Aside0.mk (show Rd w gr (bs.drop (o5 8 sd le ti ty ch)) (okk && allB (dS 8 sd le ti ty ch bs)) w22 from HR.out)
 clear HR
 have HR := HR2
 clear HR2
 have HE := Aside0.mk (show ut ≤ (bs.drop (o5 8 sd le ti ty ch)).length from (by have h1_ := HN.out; have h2_ := HL.out; rw [List.length_drop]; simp only [bodyN, o1, o2, o3, o4, o5] at h1_ ⊢; omega))
 have HLE := Aside0.mk (show w.heap.size ≤ w22.heap.size from Nat.le_of_lt (Nat.lt_of_le_of_lt HR.out.1 LTr.out))
 go_upto_region 36 with (go_at_call 41; (with_reducible refine (marks_c HR.out LTr.out ut HE.out HUT.out).mono ?_); rintro e w23 ⟨v4, rfl, hS, hR1, hK1⟩; replace hS := (show Kd.R Kd.bool 4 w23 w22.heap.size (fun _ => True) v4 (isOne (dU 8 ut sd le ti ty ch bs)) from hS); obtain ⟨A9, c9, rfl⟩ := Kd.R_slice hS; have n0_ := Aside0.mk (blk_kb (B4.out) hK1 NE4r.out); have n1_ := Aside0.mk (blk_kb (B6.out) hK1 NE6r.out); have n2_ := Aside0.mk (R_kb (HK.out) (HR.out) (by decide) hK1); have n3_ := Aside0.mk (R_kb (HJ.out) (HR.out) (by decide) hK1); have n4_ := Aside0.mk (R_kb (HLp.out) (HR.out) (by decide) hK1); have n5_ := Aside0.mk (R_kb (HS2.out) (HR.out) (by decide) hK1); have n6_ := Aside0.mk (Nat.lt_of_lt_of_le LTr.out hK1.1); have n7_ := Aside0.mk hR1; clear B4 B6 HK HJ HLp HS2 LTr HR hR1 hK1; have B4 := n0_; have B6 := n1_; have HK := n2_; have HJ := n3_; have HLp := n4_; have HS2 := n5_; have LTr := n6_; have HR := n7_; clear n0_ n1_ n2_ n3_ n4_ n5_ n6_ n7_; have HU := Aside0.mk (show Kd.R Kd.bool 4 w23 w.heap.size (fun k => N ≤ k) _ _ from Kd.R_lower (Kd.R_mono (Kd.R_bound hS) (fun k hk => by rw [HNN.out]; exact hk.2.1)) HLE.out); clear hS; have z1 : w23.cell? ⟨g6, 4, none⟩ = some (.slice none 0 0) := (blk_cell B6.out 4).trans rfl; have z2 := blk_frozen B6.out 4)
 clear z1 z2 h1 HE HLE HNN
 have n0_ := Aside0.mk (show (w23.setCell ⟨g6, 4, none⟩ (.slice A9 (isOne (dU 8 ut sd le ti ty ch bs)).length c9)).heap[g4]? = _ from blk_far B4.out NE46.out _); have n1_ := Aside0.mk (show (w23.setCell ⟨g6, 4, none⟩ (.slice A9 (isOne (dU 8 ut sd le ti ty ch bs)).length c9)).heap[g6]? = some (.cells #[v0, v1, v2, .slice A8 (isOne (dS 8 sd le ti ty ch bs)).length c8, .slice A9 (isOne (dU 8 ut sd le ti ty ch bs)).length c9] 27 (0, 0)) from blk_put B6.out 4 _ rfl); have n2_ := Aside0.mk (Kd.R_set HK.out B6.out (by decide) 4 (.slice A9 (isOne (dU 8 ut sd le ti ty ch bs)).length c9)); have n3_ := Aside0.mk (Kd.R_set HJ.out B6.out (by decide) 4 (.slice A9 (isOne (dU 8 ut sd le ti ty ch bs)).length c9)); have n4_ := Aside0.mk (Kd.R_set HLp.out B6.out (by decide) 4 (.slice A9 (isOne (dU 8 ut sd le ti ty ch bs)).length c9)); have n5_ := Aside0.mk (Kd.R_set HS2.out B6.out (by decide) 4 (.slice A9 (isOne (dU 8 ut sd le ti ty ch bs)).length c9)); have n6_ := Aside0.mk (Kd.R_set HU.out B6.out (by decide) 4 (.slice A9 (isOne (dU 8 ut sd le ti ty ch bs)).length c9)); have n7_ := Aside0.mk (rd_set HR.out NE6r.out GEg6.out 4 (.slice A9 (isOne (dU 8 ut sd le ti ty ch bs)).length c9)); have n8_ := Aside0.mk (show gr < (w23.setCell ⟨g6, 4, none⟩ (.slice A9 (isOne (dU 8 ut sd le ti ty ch bs)).length c9)).heap.size by rw [World.size_setCell]; exact LTr.out); clear B4 B6 HK HJ HLp HS2 HU HR LTr; obtain ⟨w24, hwc_⟩ : ∃ x, x = (w23.setCell ⟨g6, 4, none⟩ (.slice A9 (isOne (dU 8 ut sd le ti ty ch bs)).length c9)) := ⟨_, rfl⟩; rw [← hwc_] at n0_ n1_ n2_ n3_ n4_ n5_ n6_ n7_ n8_ ⊢; clear hwc_; have B4 := n0_; have B6 := n1_; have HK := n2_; have HJ := n3_; have HLp := n4_; have HS2 := n5_; have HU := n6_; have HR := n7_; have LTr := n8_; clear n0_ n1_ n2_ n3_ n4_ n5_ n6_ n7_ n8_
 have HRP := Aside0.mk (show Rd w gr ((bs.drop (o5 8 sd le ti ty ch)).drop ut) (dOK 8 ut sd le ti ty ch bs) w24 from by have h := HR.out; rw [HOKK.out] at h; exact h)
 clear HR HOKK cl
 obtain ⟨p, hp⟩ : ∃ x, x = dOK 8 ut sd le ti ty ch bs := ⟨_, rfl⟩
 obtain ⟨q, hq⟩ : ∃ x, x = dRight 8 v ut sd le ti ty ch bs := ⟨_, rfl⟩
 have HFF := Aside0.mk (HF.out p q hp.symm hq.symm)
 rw [← hp] at HRP
 obtain ⟨A10, c10, e10, hl10, hC10⟩ := Kd.R_reads HK.out
 obtain ⟨A11, c11, e11, hl11, hC11⟩ := Kd.R_reads HJ.out
 obtain ⟨A12, c12, e12, hl12, hC12⟩ := Kd.R_reads HLp.out
 subst e10 e11 e12
 have HCR := Aside0.mk (Stub.block_Right.calls A10 c10 (dK 8 ti ty ch bs) A11 c11 (dJ 8 ti bs) A12 c12 (dL 8 le ti ty ch bs) A8 c8 (isOne (dS 8 sd le ti ty ch bs)) A9 c9 (isOne (dU 8 ut sd le ti ty ch bs)) 8 v q w24 hC10 hl10 hC11 hl11 hC12 hl12 (Kd.R_reads' HS2.out).2.2 (Kd.R_reads' HS2.out).2.1 (Kd.R_reads' HU.out).2.2 (Kd.R_reads' HU.out).2.1 (by unfold Stub.block_Right.f; rw [if_pos HENC.out, hq]; rfl))
 clear hp hq hl10 hl11 hl12 hC10 hC11 hC12 HF HENC HSD HUT
 obtain ⟨r1, r2, A5, c5, hblk, r3, r4⟩ := HRP.out
 have hc1 : w24.cell? ⟨gr, 1, none⟩ = some (.bool p) := (blk_cell hblk 1).trans rfl
 have HBL := Aside0.mk r2
 clear r1 r2 r3 r4 hblk HRP HL HN
 have s0 : w24.cell? ⟨g6, 0, none⟩ = some (.slice A10 (dK 8 ti ty ch bs).length c10) := (blk_cell B6.out 0).trans rfl
 have s1 : w24.cell? ⟨g6, 1, none⟩ = some (.slice A11 (dJ 8 ti bs).length c11) := (blk_cell B6.out 1).trans rfl
 have s2 : w24.cell? ⟨g6, 2, none⟩ = some (.slice A12 (dL 8 le ti ty ch bs).length c12) := (blk_cell B6.out 2).trans rfl
 have s3 : w24.cell? ⟨g6, 3, none⟩ = some (.slice A8 (isOne (dS 8 sd le ti ty ch bs)).length c8) := (blk_cell B6.out 3).trans rfl
 have s4 : w24.cell? ⟨g6, 4, none⟩ = some (.slice A9 (isOne (dU 8 ut sd le ti ty ch bs)).length c9) := (blk_cell B6.out 4).trans rfl
 have y0 := blk_frozen B6.out 0
 have y1 := blk_frozen B6.out 1
 have y2 := blk_frozen B6.out 2
 have y3 := blk_frozen B6.out 3
 have y4 := blk_frozen B6.out 4
 have x0 : w24.cell? ⟨g4, 0, none⟩ = some (.int .i64 v) := (blk_cell B4.out 0).trans rfl
 cases p
 ·
  clear HCR x0
  go_wp2
  refine bodyPost_ret (results_ct rfl _ _ g6 27 _ (0, 0) _ rfl (put5_at B6.out) Try.underlying27 rfl (by kernel_rfl)) rfl ?_
  exact ⟨_, _, _, _, _, [], [], [], [], [], 4, HFF.out, rfl, Kd.R_nil _ _ _ _ _, Kd.R_nil _ _ _ _ _, Kd.R_nil _ _ _ _ _, Kd.R_nil _ _ _ _ _, Kd.R_nil _ _ _ _ _, put5_below HBL.out GEg6.out⟩
 cases q
 ·
  go_upto_region 37 with (go_at_call 16; (with_reducible refine (HCR.out).mono ?_); rintro e w25 ⟨rfl, hb⟩; have n1_ := Aside0.mk (blk_below B6.out hb); have n2_ := Aside0.mk (Kd.R_below HK.out hb); have n3_ := Aside0.mk (Kd.R_below HJ.out hb); have n4_ := Aside0.mk (Kd.R_below HLp.out hb); have n5_ := Aside0.mk (Kd.R_below HS2.out hb); have n6_ := Aside0.mk (Kd.R_below HU.out hb); have n7_ := Aside0.mk (below_step HBL.out hb); clear B6 HK HJ HLp HS2 HU HBL B4 hb; have B6 := n1_; have HK := n2_; have HJ := n3_; have HLp := n4_; have HS2 := n5_; have HU := n6_; have HBL := n7_; clear n1_ n2_ n3_ n4_ n5_ n6_ n7_; have t0 : w25.cell? ⟨g6, 0, none⟩ = some (.slice A10 (dK 8 ti ty ch bs).length c10) := (blk_cell B6.out 0).trans rfl; have u0 := blk_frozen B6.out 0; have t1 : w25.cell? ⟨g6, 1, none⟩ = some (.slice A11 (dJ 8 ti bs).length c11) := (blk_cell B6.out 1).trans rfl; have u1 := blk_frozen B6.out 1; have t2 : w25.cell? ⟨g6, 2, none⟩ = some (.slice A12 (dL 8 le ti ty ch bs).length c12) := (blk_cell B6.out 2).trans rfl; have u2 := blk_frozen B6.out 2; have t3 : w25.cell? ⟨g6, 3, none⟩ = some (.slice A8 (isOne (dS 8 sd le ti ty ch bs)).length c8) := (blk_cell B6.out 3).trans rfl; have u3 := blk_frozen B6.out 3; have t4 : w25.cell? ⟨g6, 4, none⟩ = some (.slice A9 (isOne (dU 8 ut sd le ti ty ch bs)).length c9) := (blk_cell B6.out 4).trans rfl; have u4 := blk_frozen B6.out 4)
  go_wp2
  refine bodyPost_ret (results_ct rfl _ _ g6 27 _ (0, 0) _ rfl (put5_at B6.out) Try.underlying27 rfl (by kernel_rfl)) rfl ?_
  exact ⟨_, _, _, _, _, [], [], [], [], [], 4, HFF.out, rfl, Kd.R_nil _ _ _ _ _, Kd.R_nil _ _ _ _ _, Kd.R_nil _ _ _ _ _, Kd.R_nil _ _ _ _ _, Kd.R_nil _ _ _ _ _, put5_below HBL.out GEg6.out⟩
 go_upto_region 38 with (go_at_call 16; (with_reducible refine (HCR.out).mono ?_); rintro e w25 ⟨rfl, hb⟩; have n1_ := Aside0.mk (blk_below B6.out hb); have n2_ := Aside0.mk (Kd.R_below HK.out hb); have n3_ := Aside0.mk (Kd.R_below HJ.out hb); have n4_ := Aside0.mk (Kd.R_below HLp.out hb); have n5_ := Aside0.mk (Kd.R_below HS2.out hb); have n6_ := Aside0.mk (Kd.R_below HU.out hb); have n7_ := Aside0.mk (below_step HBL.out hb); clear B6 HK HJ HLp HS2 HU HBL B4 hb; have B6 := n1_; have HK := n2_; have HJ := n3_; have HLp := n4_; have HS2 := n5_; have HU := n6_; have HBL := n7_; clear n1_ n2_ n3_ n4_ n5_ n6_ n7_; have t0 : w25.cell? ⟨g6, 0, none⟩ = some (.slice A10 (dK 8 ti ty ch bs).length c10) := (blk_cell B6.out 0).trans rfl; have u0 := blk_frozen B6.out 0; have t1 : w25.cell? ⟨g6, 1, none⟩ = some (.slice A11 (dJ 8 ti bs).length c11) := (blk_cell B6.out 1).trans rfl; have u1 := blk_frozen B6.out 1; have t2 : w25.cell? ⟨g6, 2, none⟩ = some (.slice A12 (dL 8 le ti ty ch bs).length c12) := (blk_cell B6.out 2).trans rfl; have u2 := blk_frozen B6.out 2; have t3 : w25.cell? ⟨g6, 3, none⟩ = some (.slice A8 (isOne (dS 8 sd le ti ty ch bs)).length c8) := (blk_cell B6.out 3).trans rfl; have u3 := blk_frozen B6.out 3; have t4 : w25.cell? ⟨g6, 4, none⟩ = some (.slice A9 (isOne (dU 8 ut sd le ti ty ch bs)).length c9) := (blk_cell B6.out 4).trans rfl; have u4 := blk_frozen B6.out 4)
 go_wp2
 refine bodyPost_ret (results_ct rfl _ _ g6 27 _ (0, 0) _ rfl (put5_at B6.out) Try.underlying27 rfl (by kernel_rfl)) rfl ?_
 exact ⟨_, _, _, _, _, _, _, _, _, _, 0, HFF.out, rfl, put5_R HK.out B6.out (by decide), put5_R HJ.out B6.out (by decide), put5_R HLp.out B6.out (by decide), Kd.R_mono (put5_R HS2.out B6.out (by decide)) (fun k hk e => by have h := HU.out.1 k e.symm; omega), Kd.R_mono (put5_R HU.out B6.out (by decide)) (fun k hk e => by have h := HS2.out.1 k e.symm; omega), put5_below HBL.out GEg6.out⟩
end Go.Proofs.Ythobnoknbdljgaa.Hand
end
section
namespace Go.Proofs.Ythobnoknbdljgaa.Hand
open Go.RowKit Go.Proofs.YthobnoknbdljgaaW.PrintWords Go.Proofs.YthobnoknbdljgaaW.PrintLast Go.Proofs.YthobnoknbdljgaaW.PrintMore PB0
set_option linter.unusedVariables false
set_option linter.unusedSimpArgs false
set_option maxHeartbeats 4000000 in
set_option maxRecDepth 100000 in
theorem decode_no (A0 : Option Addr) (c0 n : Nat) (v ut sd le ti ty ch a2 : Int) (w : World) (hno : ¬ ((a2 = 4 ∨ a2 = 8) ∧ rightP v ut sd le ti ty ch)) :
  Calls Try.prog 21 #[.slice A0 n c0, .agg #[.int .i64 v, .int .i64 ut, .int .i64 sd, .int .i64 le, .int .i64 ti, .int .i64 ty, .int .i64 ch], .int .i64 a2] w fun e w' => e = .returned (.tuple #[.agg #[.slice none 0 0, .slice none 0 0, .slice none 0 0, .slice none 0 0, .slice none 0 0], .int .i64 1]) ∧ Below w.heap.size w w' := by
 have hu27 := Try.underlying27
 have hu35 := Try.underlying35
 have HB := Aside0.mk (Below.refl w.heap.size w)
 have HP := Aside0.mk (show PB0.header_Right.f v ut sd le ti ty ch = some (decide (rightP v ut sd le ti ty ch)) from hright_f ..)
 rcases (show (((a2 == 4) = false ∧ (a2 != 4) = true) ∧ ((a2 == 8) = false ∧ (a2 != 8) = true)) ∨ (((a2 == 4) = true ∧ (a2 != 4) = false) ∧ decide (rightP v ut sd le ti ty ch) = false) ∨ (((a2 == 4) = false ∧ (a2 != 4) = true) ∧ ((a2 == 8) = true ∧ (a2 != 8) = false) ∧ decide (rightP v ut sd le ti ty ch) = false) by
  by_cases c1 : a2 = 4
  ·
   subst c1
   exact .inr (.inl ⟨by decide, decide_eq_false (fun h => hno ⟨.inl rfl, h⟩)⟩)
  ·
   have d1 : ((a2 == 4) = false ∧ (a2 != 4) = true) := ⟨by simpa using c1, by simpa using c1⟩
   by_cases c2 : a2 = 8
   ·
    subst c2
    exact .inr (.inr ⟨d1, by decide, decide_eq_false (fun h => hno ⟨.inr rfl, h⟩)⟩)
   ·
    exact .inl ⟨d1, ⟨by simpa using c2, by simpa using c2⟩⟩) with ⟨⟨c1, c2⟩, c3, c4⟩ | ⟨⟨c1, c2⟩, c5⟩ | ⟨⟨c1, c2⟩, ⟨c3, c4⟩, c5⟩
 all_goals
  try rw [c5] at HP
  clear hno
  go_enter Try.func21, Try.ntmps21
  go_upto_region 2 with (first
   | ((with_reducible refine gate_dst (N := 4) rfl ?_); refine box_event ?hg (N := 4) ?hd (cs := #[.int .i64 v, .int .i64 ut, .int .i64 sd, .int .i64 le, .int .i64 ti, .int .i64 ty, .int .i64 ch]) (t := 35) ?hr ?_; (case hd => rfl); (case hg => rfl); (case hr => first | (go_simp; done) | (go_simp; rfl)); intro g4 hg w1 hbox hb; have Bg4 := Aside0.mk hbox; have GEg4 := Aside0.mk (show w.heap.size ≤ g4 by first | omega | (have h_ := below_size HB.out; omega)); clear hbox hg; have n0_ := Aside0.mk (below_step HB.out hb); clear HB; have HB := n0_; clear n0_ hb; obtain ⟨s0, s1, s2, s3, s4, s5, s6⟩ := Sq.c7 Bg4)
   | ((with_reducible refine gate_dst (N := 6) rfl ?_); refine box_event ?hg (N := 6) ?hd (cs := #[.slice none 0 0, .slice none 0 0, .slice none 0 0, .slice none 0 0, .slice none 0 0]) (t := 27) ?hr ?_; (case hd => rfl); (case hg => rfl); (case hr => first | (go_simp; done) | (go_simp; rfl)); intro g6 hg w2 hbox hb; have Bg6 := Aside0.mk hbox; have GEg6 := Aside0.mk (show w.heap.size ≤ g6 by first | omega | (have h_ := below_size HB.out; omega)); have NE46 := Aside0.mk (show g4 ≠ g6 by have := blk_lt Bg4.out; omega); clear hbox hg; have n0_ := Aside0.mk (blk_below Bg4.out hb); have n1_ := Aside0.mk (below_step HB.out hb); clear Bg4 HB; have Bg4 := n0_; have HB := n1_; clear n0_ n1_ hb; obtain ⟨t0, t1, t2, t3, t4, t5, t6⟩ := Sq.c7 Bg4)
   | (go_at_call 19; (with_reducible refine (PB0.header_Right.calls v ut sd le ti ty ch false _ HP.out).mono ?_); rintro e w3 ⟨rfl, hb⟩; have n0_ := Aside0.mk (blk_below Bg6.out hb); have n1_ := Aside0.mk (below_step HB.out hb); clear Bg6 HB; have Bg6 := n0_; have HB := n1_; clear n0_ n1_ hb))
  refine forget_wp (fun wc => Aside0 (wc.heap[g6]? = some (.cells #[.slice none 0 0, .slice none 0 0, .slice none 0 0, .slice none 0 0, .slice none 0 0] 27 (0, 0))) ∧ Aside0 (Below w.heap.size w wc)) ⟨Bg6, HB⟩ ?_
  clear Bg4 Bg6 HB HP s0 s1 s2 s3 s4 s5 s6 t0 t1 t2 t3 t4 t5 t6
  rintro w6 ⟨B6, HB⟩
  obtain ⟨z0, z1, z2, z3, z4⟩ := Sq.c5 B6
  have y0 := blk_frozen B6.out 0; have y1 := blk_frozen B6.out 1; have y2 := blk_frozen B6.out 2; have y3 := blk_frozen B6.out 3; have y4 := blk_frozen B6.out 4
  go_wp2
  refine bodyPost_ret (results_ct rfl _ _ g6 27 _ (0, 0) _ rfl (put5_at B6.out) Try.underlying27 rfl (by kernel_rfl)) rfl ?_
  exact ⟨rfl, put5_below HB.out GEg6.out⟩
set_option maxHeartbeats 4000000 in
set_option maxRecDepth 100000 in
theorem decode_short (A0 : Option Addr) (c0 n : Nat) (v : Int) (ut sd le ti ty ch : Nat) (a2 : Int) (m : Nat) (ha : a2 = (m : Int)) (hm : m = 4 ∨ m = 8) (w : World) (hp : rightP v ut sd le ti ty ch) (hl : n < bodyN m ut sd le ti ty ch) :
  Calls Try.prog 21 #[.slice A0 n c0, .agg #[.int .i64 v, .int .i64 ut, .int .i64 sd, .int .i64 le, .int .i64 ti, .int .i64 ty, .int .i64 ch], .int .i64 a2] w fun e w' => e = .returned (.tuple #[.agg #[.slice none 0 0, .slice none 0 0, .slice none 0 0, .slice none 0 0, .slice none 0 0], .int .i64 5]) ∧ Below w.heap.size w w' := by
 have hu27 := Try.underlying27
 have hu35 := Try.underlying35
 have HB := Aside0.mk (Below.refl w.heap.size w)
 have HP := Aside0.mk (show PB0.header_Right.f v ut sd le ti ty ch = some true by rw [hright_f, decide_eq_true hp])
 have HBO := Aside0.mk (show PB0.header_Body.f v ut sd le ti ty ch a2 = some ((bodyN m ut sd le ti ty ch : Nat) : Int) by
  rcases hm with rfl | rfl
  ·
   subst ha
   exact body_4 v ut sd le ti ty ch hp
  ·
   subst ha
   exact body_8 v ut sd le ti ty ch hp)
 obtain ⟨nB, hnB⟩ : ∃ x, x = bodyN m ut sd le ti ty ch := ⟨_, rfl⟩
 rw [← hnB] at hl HBO
 have hlt0 : decide ((n : Int) < (nB : Int)) = true := decide_eq_true (by omega)
 have hlt1 : decide (n < nB) = true := decide_eq_true hl
 have hcs : (a2 == 4) = true ∧ (a2 != 4) = false ∨ ((a2 == 4) = false ∧ (a2 != 4) = true) ∧ ((a2 == 8) = true ∧ (a2 != 8) = false) := by
  rcases hm with rfl | rfl
  ·
   subst ha; exact .inl (by decide)
  subst ha; exact .inr (by decide)
 clear hnB ha hm hp hl
 rcases hcs with ⟨c1, c2⟩ | ⟨⟨c1, c2⟩, c3, c4⟩
 all_goals
  go_enter Try.func21, Try.ntmps21
  go_upto_region 5 with (first
   | ((with_reducible refine gate_dst (N := 4) rfl ?_); refine box_event ?hg (N := 4) ?hd (cs := #[.int .i64 v, .int .i64 ut, .int .i64 sd, .int .i64 le, .int .i64 ti, .int .i64 ty, .int .i64 ch]) (t := 35) ?hr ?_; (case hd => rfl); (case hg => rfl); (case hr => first | (go_simp; done) | (go_simp; rfl)); intro g4 hg w1 hbox hb; have Bg4 := Aside0.mk hbox; have GEg4 := Aside0.mk (show w.heap.size ≤ g4 by first | omega | (have h_ := below_size HB.out; omega)); clear hbox hg; have n0_ := Aside0.mk (below_step HB.out hb); clear HB; have HB := n0_; clear n0_ hb; obtain ⟨s0, s1, s2, s3, s4, s5, s6⟩ := Sq.c7 Bg4)
   | ((with_reducible refine gate_dst (N := 6) rfl ?_); refine box_event ?hg (N := 6) ?hd (cs := #[.slice none 0 0, .slice none 0 0, .slice none 0 0, .slice none 0 0, .slice none 0 0]) (t := 27) ?hr ?_; (case hd => rfl); (case hg => rfl); (case hr => first | (go_simp; done) | (go_simp; rfl)); intro g6 hg w2 hbox hb; have Bg6 := Aside0.mk hbox; have GEg6 := Aside0.mk (show w.heap.size ≤ g6 by first | omega | (have h_ := below_size HB.out; omega)); have NE46 := Aside0.mk (show g4 ≠ g6 by have := blk_lt Bg4.out; omega); clear hbox hg; have n0_ := Aside0.mk (blk_below Bg4.out hb); have n1_ := Aside0.mk (below_step HB.out hb); clear Bg4 HB; have Bg4 := n0_; have HB := n1_; clear n0_ n1_ hb; obtain ⟨t0, t1, t2, t3, t4, t5, t6⟩ := Sq.c7 Bg4)
   | (go_at_call 19; (with_reducible refine (PB0.header_Right.calls v ut sd le ti ty ch true _ HP.out).mono ?_); rintro e w3 ⟨rfl, hb⟩; have n0_ := Aside0.mk (blk_below Bg4.out hb); have n1_ := Aside0.mk (blk_below Bg6.out hb); have n2_ := Aside0.mk (below_step HB.out hb); clear Bg4 Bg6 HB; have Bg4 := n0_; have Bg6 := n1_; have HB := n2_; clear n0_ n1_ n2_ hb; obtain ⟨x0, x1, x2, x3, x4, x5, x6⟩ := Sq.c7 Bg4)
   | (go_at_call 20; (with_reducible refine (PB0.header_Body.calls v ut sd le ti ty ch a2 (nB : Int) _ HBO.out).mono ?_); rintro e w4 ⟨rfl, hb⟩; have n0_ := Aside0.mk (blk_below Bg4.out hb); have n1_ := Aside0.mk (blk_below Bg6.out hb); have n2_ := Aside0.mk (below_step HB.out hb); clear Bg4 Bg6 HB; have Bg4 := n0_; have Bg6 := n1_; have HB := n2_; clear n0_ n1_ n2_ hb; obtain ⟨y0, y1, y2, y3, y4, y5, y6⟩ := Sq.c7 Bg4))
  refine forget_wp (fun wc => Aside0 (wc.heap[g6]? = some (.cells #[.slice none 0 0, .slice none 0 0, .slice none 0 0, .slice none 0 0, .slice none 0 0] 27 (0, 0))) ∧ Aside0 (Below w.heap.size w wc)) ⟨Bg6, HB⟩ ?_
  clear Bg4 Bg6 HB HP s0 s1 s2 s3 s4 s5 s6 t0 t1 t2 t3 t4 t5 t6 x0 x1 x2 x3 x4 x5 x6 y0 y1 y2 y3 y4 y5 y6
  rintro w6 ⟨B6, HB⟩
  obtain ⟨z0, z1, z2, z3, z4⟩ := Sq.c5 B6
  have y0 := blk_frozen B6.out 0; have y1 := blk_frozen B6.out 1; have y2 := blk_frozen B6.out 2; have y3 := blk_frozen B6.out 3; have y4 := blk_frozen B6.out 4
  go_wp2
  refine bodyPost_ret (results_ct rfl _ _ g6 27 _ (0, 0) _ rfl (put5_at B6.out) Try.underlying27 rfl (by kernel_rfl)) rfl ?_
  exact ⟨rfl, put5_below HB.out GEg6.out⟩
end Go.Proofs.Ythobnoknbdljgaa.Hand
namespace Go.Proofs.Ythobnoknbdljgaa.Stub
open Go.RowKit Go.Proofs.YthobnoknbdljgaaW.PrintWords PB0 Hand
theorem block_Decode.calls (A0 : Option Addr) (c0 : Nat) (l0 : List Int) (v ut sd le ti ty ch a2 : Int) (r1 : List S56) (r2 : List S54) (r3 : List S67) (r4 r5 : List Bool) (r6 : Int) (w : World) (hr0 : Kd.C (Kd.int .u8) w A0 l0.length l0) (hc0 : l0.length ≤ c0) (h : block_Decode.f l0 v ut sd le ti ty ch a2 = some (r1, r2, r3, r4, r5, r6)) :
  Calls Try.prog 21 #[.slice A0 l0.length c0, .agg #[.int .i64 v, .int .i64 ut, .int .i64 sd, .int .i64 le, .int .i64 ti, .int .i64 ty, .int .i64 ch], .int .i64 a2] w fun e w' => ∃ v0_ v1_ v2_ v3_ v4_ : Value, e = .returned (.tuple #[.agg #[v0_, v1_, v2_, v3_, v4_], .int .i64 r6]) ∧ Kd.R k56 56 w' w.heap.size (fun _ => True) v0_ r1 ∧ Kd.R k54 54 w' w.heap.size (fun _ => True) v1_ r2 ∧ Kd.R k67 67 w' w.heap.size (fun _ => True) v2_ r3 ∧ Kd.R Kd.bool 4 w' w.heap.size (fun k_ => some k_ ≠ (v4_ : Value).ownBlock) v3_ r4 ∧ Kd.R Kd.bool 4 w' w.heap.size (fun k_ => some k_ ≠ (v3_ : Value).ownBlock) v4_ r5 ∧ Below w.heap.size w w' := by
 by_cases hp : (a2 = 4 ∨ a2 = 8) ∧ rightP v ut sd le ti ty ch
 rotate_left
 ·
  unfold block_Decode.f at h
  rw [if_neg hp] at h
  simp only [Option.some.injEq, Prod.mk.injEq] at h
  obtain ⟨rfl, rfl, rfl, rfl, rfl, rfl⟩ := h
  refine (decode_no A0 c0 l0.length v ut sd le ti ty ch a2 w hp).mono ?_
  rintro e w' ⟨rfl, hb⟩
  exact ⟨_, _, _, _, _, rfl, Kd.R_nil _ _ _ _ _, Kd.R_nil _ _ _ _ _, Kd.R_nil _ _ _ _ _, Kd.R_nil _ _ _ _ _, Kd.R_nil _ _ _ _ _, hb⟩
 obtain ⟨ha, hp⟩ := hp
 obtain ⟨ut, rfl⟩ := Int.eq_ofNat_of_zero_le (show 0 ≤ ut by obtain ⟨h1, h2, h3, h4, h5, h6, h7⟩ := hp; omega)
 obtain ⟨sd, rfl⟩ := Int.eq_ofNat_of_zero_le (show 0 ≤ sd by obtain ⟨h1, h2, h3, h4, h5, h6, h7⟩ := hp; omega)
 obtain ⟨le, rfl⟩ := Int.eq_ofNat_of_zero_le (show 0 ≤ le by obtain ⟨h1, h2, h3, h4, h5, h6, h7⟩ := hp; omega)
 obtain ⟨ti, rfl⟩ := Int.eq_ofNat_of_zero_le (show 0 ≤ ti by obtain ⟨h1, h2, h3, h4, h5, h6, h7⟩ := hp; omega)
 obtain ⟨ty, rfl⟩ := Int.eq_ofNat_of_zero_le (show 0 ≤ ty by obtain ⟨h1, h2, h3, h4, h5, h6, h7⟩ := hp; omega)
 obtain ⟨ch, rfl⟩ := Int.eq_ofNat_of_zero_le (show 0 ≤ ch by obtain ⟨h1, h2, h3, h4, h5, h6, h7⟩ := hp; omega)
 obtain ⟨m, hm, rfl⟩ : ∃ m : Nat, (m = 4 ∨ m = 8) ∧ a2 = (m : Int) := by
  rcases ha with rfl | rfl
  ·
   exact ⟨4, .inl rfl, rfl⟩
  exact ⟨8, .inr rfl, rfl⟩
 by_cases hl : l0.length < bodyN m ut sd le ti ty ch
 ·
  unfold block_Decode.f at h
  rw [if_pos ⟨ha, hp⟩] at h
  simp only [Int.toNat_natCast] at h
  rw [if_pos hl] at h
  simp only [Option.some.injEq, Prod.mk.injEq] at h
  obtain ⟨rfl, rfl, rfl, rfl, rfl, rfl⟩ := h
  refine (decode_short A0 c0 l0.length v ut sd le ti ty ch _ m rfl hm w hp hl).mono ?_
  rintro e w' ⟨rfl, hb⟩
  exact ⟨_, _, _, _, _, rfl, Kd.R_nil _ _ _ _ _, Kd.R_nil _ _ _ _ _, Kd.R_nil _ _ _ _ _, Kd.R_nil _ _ _ _ _, Kd.R_nil _ _ _ _ _, hb⟩
 have fin : ∀ (q1 : List S56) (q2 : List S54) (q3 : List S67) (q4 q5 : List Bool) (q6 : Int), block_Decode.f l0 v ut sd le ti ty ch m = some (q1, q2, q3, q4, q5, q6) → q1 = r1 ∧ q2 = r2 ∧ q3 = r3 ∧ q4 = r4 ∧ q5 = r5 ∧ q6 = r6 := by
  intro q1 q2 q3 q4 q5 q6 hq
  rw [h] at hq
  simp only [Option.some.injEq, Prod.mk.injEq] at hq
  obtain ⟨a, b, c, d, e, f⟩ := hq
  exact ⟨a.symm, b.symm, c.symm, d.symm, e.symm, f.symm⟩
 rcases hm with rfl | rfl
 ·
  refine (decode4_walk A0 c0 l0 v ut sd le ti ty ch w hr0 hc0 hp (by omega)).mono ?_
  rintro e w' ⟨v0, v1, v2, v3, v4, q1, q2, q3, q4, q5, q6, hq, rfl, H⟩
  obtain ⟨rfl, rfl, rfl, rfl, rfl, rfl⟩ := fin _ _ _ _ _ _ hq
  exact ⟨v0, v1, v2, v3, v4, rfl, H⟩
 refine (decode8_walk A0 c0 l0 v ut sd le ti ty ch w hr0 hc0 hp (by omega)).mono ?_
 rintro e w' ⟨v0, v1, v2, v3, v4, q1, q2, q3, q4, q5, q6, hq, rfl, H⟩
 obtain ⟨rfl, rfl, rfl, rfl, rfl, rfl⟩ := fin _ _ _ _ _ _ hq
 exact ⟨v0, v1, v2, v3, v4, rfl, H⟩
end Go.Proofs.Ythobnoknbdljgaa.Stub
end
section
namespace Go.Proofs.Ythobnoknbdljgaa
open Go.RowKit Hand PB0 Go.Proofs.YthobnoknbdljgaaW.PrintWords
theorem rightB_bd {a1 a2 : Int} {l0 : List S56} {l1 : List S54} {l2 : List S67} {l3 l4 : List Bool} (h : rightB a1 a2 l0 l1 l2 l3 l4 = true) :
  (a1 = 4 ∨ a1 = 8) ∧ 1 ≤ l0.length ∧ l0.length ≤ 256 ∧ (l3.length = 0 ∨ l3.length = l0.length) ∧ (l4.length = 0 ∨ l4.length = l0.length) ∧ l1.length ≤ 5000 ∧ l2.length ≤ 5000 ∧ (nmSt (names l0)).1.length ≤ 256 := by
 unfold rightB kindedB cntB jumpedB leapedB at h
 simp only [Bool.and_eq_true, Bool.or_eq_true, decide_eq_true_eq] at h
 obtain ⟨⟨⟨h1, ⟨h2, _⟩, h3⟩, _, h4⟩, _, h5⟩ := h
 refine ⟨h1, h2.1, h2.2.1, h2.2.2.1, h2.2.2.2, by omega, by omega, h3⟩
def encR (l0 : List S56) (l1 : List S54) (l2 : List S67) (l3 l4 : List Bool) (a1 a2 : Int) : List Int × Int × Int × Int × Int × Int × Int × Int × Int :=
 if 1 ≤ a2 ∧ a2 ≤ 4 ∧ rightB a1 a2 l0 l1 l2 l3 l4 = true then
  (encL a1.toNat l0 l1 l2 l3 l4, a2, (l4.length : Int), (l3.length : Int), (l2.length : Int), (l1.length : Int), (l0.length : Int), ((nmSt (names l0)).1.length : Int), 0)
 else ([], 0, 0, 0, 0, 0, 0, 0, 1)
theorem put_f0 (m : Nat) (hm : m ≤ 8) (n : Int) (xs : List Int) (hx : xs.length < 1000000000) : Stub.octets_Put.f xs (m : Int) n = some (xs ++ be m n) := by
 unfold Stub.octets_Put.f
 rw [if_pos ⟨hx, by omega, by omega⟩, Int.toNat_natCast]
theorem tr_f0 (l : List Bool) (h : l.length ≤ 1000000) : Stub.block_truths.f l = some (tr l) := by
 unfold Stub.block_truths.f
 rw [if_pos h]
theorem tr_len (l : List Bool) : (tr l).length = l.length := List.length_map _
theorem drop_get {α : Type} (l : List α) (i : Nat) (h : i < l.length) : l.drop i = l[i] :: l.drop (i + 1) := List.drop_eq_getElem_cons h
theorem w64s (i : Nat) (h : i < 1000000000) : wrap64 ((i : Int) + 1) = ((i + 1 : Nat) : Int) := by rw [w64 (by omega) (by omega)]; omega
theorem enc_l3 (m : Nat) (hm : m ≤ 8) (a2 : Int) (nm : ByteArray) (l0 : List S56) (l1 : List S54) (l2 : List S67) (l3 l4 : List Bool) (h2 : l2.length ≤ 5000) (h3 : l3.length ≤ 256) (h4 : l4.length ≤ 256) (d : Nat) :
  ∀ (k i : Nat) (x : List Int), i + d = l2.length → d < k → x.length + 12 * d ≤ 1000000 →
   PE.block_Encode.l3 k (m : Int) a2 x nm l2 (l2.length : Int) i l0 l1 l2 l3 l4 = some (x ++ (l2.drop i).flatMap (lA m) ++ tr l3 ++ tr l4, a2, (l4.length : Int), (l3.length : Int), (l2.length : Int), (l1.length : Int), (l0.length : Int), (nm.size : Int), 0) := by
 induction d with
 | zero =>
  intro k i x hi hk hx
  obtain ⟨k, rfl⟩ : ∃ q, k = q + 1 := ⟨k - 1, by omega⟩
  rw [PE.block_Encode.l3, if_neg (by omega), tr_f0 l3 (by omega), tr_f0 l4 (by omega)]
  have hc : slices_Concat_byte_byte.f [x, tr l3, tr l4] = some (x ++ tr l3 ++ tr l4) := by
   unfold slices_Concat_byte_byte.f
   rw [if_pos ⟨by simp, by simp [tr_len]; omega⟩]
   simp
  rw [Option.bind_some, Option.bind_some, hc, Option.bind_some, List.drop_of_length_le (by omega)]
  simp
 | succ d ih =>
  intro k i x hi hk hx
  obtain ⟨k, rfl⟩ : ∃ q, k = q + 1 := ⟨k - 1, by omega⟩
  have hlt : i < l2.length := by omega
  rw [PE.block_Encode.l3, if_pos (by omega), if_pos (by omega), if_pos (by omega), rd67 l2 i hlt, put_f0 m hm _ [] (by simp)]
  rw [Option.bind_some, show (4 : Int) = ((4 : Nat) : Int) from rfl, put_f0 4 (by omega) _ _ (by rw [List.length_append, be_len]; simp; omega), Option.bind_some]
  rw [if_pos (by rw [List.length_append, List.length_append, be_len, be_len]; simp; omega), w64s i (by omega), ih k (i + 1) _ (by omega) (by omega) (by rw [List.length_append, List.length_append, List.length_append, be_len, be_len]; simp; omega)]
  rw [drop_get l2 i hlt, List.flatMap_cons]
  simp [lA, u64w]
theorem enc_l2 (m : Nat) (hm : m ≤ 8) (a2 : Int) (nm : ByteArray) (at_ : List Int) (l0 : List S56) (l1 : List S54) (l2 : List S67) (l3 l4 : List Bool) (hn : nm.size ≤ 256) (hat : at_.length = l0.length) (h0 : l0.length ≤ 256) (h2 : l2.length ≤ 5000) (h3 : l3.length ≤ 256) (h4 : l4.length ≤ 256) (d : Nat) :
  ∀ (k i : Nat) (x : List Int), i + d = l0.length → d + l2.length + 1 < k → x.length + 6 * d ≤ 100000 →
   PE.block_Encode.l2 k (m : Int) a2 x nm at_ l0 (l0.length : Int) i l0 l1 l2 l3 l4 = some (x ++ ((l0.zip at_).drop i).flatMap kA ++ bytesOf nm ++ l2.flatMap (lA m) ++ tr l3 ++ tr l4, a2, (l4.length : Int), (l3.length : Int), (l2.length : Int), (l1.length : Int), (l0.length : Int), (nm.size : Int), 0) := by
 induction d with
 | zero =>
  intro k i x hi hk hx
  obtain ⟨k, rfl⟩ : ∃ q, k = q + 1 := ⟨k - 1, by omega⟩
  rw [PE.block_Encode.l2, if_neg (by omega), if_pos (by omega)]
  have h := enc_l3 m hm a2 nm l0 l1 l2 l3 l4 h2 h3 h4 l2.length k 0 (x ++ bytesOf nm) (by omega) (by omega) (by rw [List.length_append, bytesOf_length]; omega)
  rw [show ((0 : Nat) : Int) = 0 from rfl] at h
  rw [h, List.drop_of_length_le (show (l0.zip at_).length ≤ i by rw [List.length_zip]; omega), List.drop_zero]
  simp
 | succ d ih =>
  intro k i x hi hk hx
  obtain ⟨k, rfl⟩ : ∃ q, k = q + 1 := ⟨k - 1, by omega⟩
  have hlt : i < l0.length := by omega
  have hz : i < (l0.zip at_).length := by rw [List.length_zip]; omega
  rw [PE.block_Encode.l2, if_pos (by omega), if_pos (by omega), if_pos (by omega), rd56 l0 i hlt, show (4 : Int) = ((4 : Nat) : Int) from rfl, put_f0 4 (by omega) _ [] (by simp)]
  rw [Option.bind_some, tr_f0 _ (by simp), Option.bind_some, w64s i (by omega), if_pos (by omega), if_pos (by omega)]
  have e1 : ((at_.take (((i + 1 : Nat) : Int)).toNat).drop ((i : Int)).toNat) = [at_[i]] := by
   rw [Int.toNat_natCast, Int.toNat_natCast, List.take_add_one, List.getElem?_eq_getElem (by omega), List.drop_append_of_le_length (by rw [List.length_take]; omega), List.drop_of_length_le (by rw [List.length_take]; omega)]
   rfl
  rw [e1]
  have hc : slices_Concat_byte_byte.f [x, [] ++ be 4 (IntKind.u64.wrap l0[i].f0), tr [l0[i].f1], [at_[i]]] = some (x ++ kA (l0[i], at_[i])) := by
   unfold slices_Concat_byte_byte.f
   rw [if_pos ⟨by simp, by simp [tr_len, be_len]; omega⟩]
   simp [kA, u64w, tr]
  rw [hc, Option.bind_some, ih k (i + 1) _ (by omega) (by omega) (by rw [List.length_append, kA_len]; omega)]
  rw [drop_get _ i hz, List.flatMap_cons, List.getElem_zip]
  simp
theorem enc_l1 (m : Nat) (hm : m ≤ 8) (a2 : Int) (l0 : List S56) (l1 : List S54) (l2 : List S67) (l3 l4 : List Bool) (hne : l0 ≠ []) (hs : nmSum (names l0) ≤ 1000000) (hn : (nmSt (names l0)).1.length ≤ 256) (h0 : l0.length ≤ 256) (h1 : l1.length ≤ 5000) (h2 : l2.length ≤ 5000) (h3 : l3.length ≤ 256) (h4 : l4.length ≤ 256) (d : Nat) :
  ∀ (k i : Nat) (x : List Int), i + d = l1.length → d + l0.length + l2.length + 2 < k → x.length + d ≤ 90000 →
   PE.block_Encode.l1 k (m : Int) a2 x l1 (l1.length : Int) i l0 l1 l2 l3 l4 = some (x ++ (l1.drop i).flatMap jB ++ (l0.zip (nmSt (names l0)).2.2).flatMap kA ++ bytesOf ⟨(nmSt (names l0)).1.toArray⟩ ++ l2.flatMap (lA m) ++ tr l3 ++ tr l4, a2, (l4.length : Int), (l3.length : Int), (l2.length : Int), (l1.length : Int), (l0.length : Int), ((nmSt (names l0)).1.length : Int), 0) := by
 induction d with
 | zero =>
  intro k i x hi hk hx
  obtain ⟨k, rfl⟩ : ∃ q, k = q + 1 := ⟨k - 1, by omega⟩
  rw [PE.block_Encode.l1, if_neg (by omega)]
  have hf : block_names.f l0 = some (⟨(nmSt (names l0)).1.toArray⟩, (nmSt (names l0)).2.2) := by
   unfold block_names.f
   rw [if_pos ⟨hne, hs⟩]
  have hsz : (⟨(nmSt (names l0)).1.toArray⟩ : ByteArray).size = (nmSt (names l0)).1.length := sz_l _
  have hat : (nmSt (names l0)).2.2.length = l0.length := by rw [(nmSt_len _).2]; simp [names]
  have h := enc_l2 m hm a2 ⟨(nmSt (names l0)).1.toArray⟩ (nmSt (names l0)).2.2 l0 l1 l2 l3 l4 (by rw [hsz]; exact hn) hat h0 h2 h3 h4 l0.length k 0 x (by omega) (by omega) (by omega)
  rw [show ((0 : Nat) : Int) = 0 from rfl, hsz] at h
  rw [hf, Option.bind_some, h, List.drop_of_length_le (show l1.length ≤ i by omega), List.drop_zero]
  simp
 | succ d ih =>
  intro k i x hi hk hx
  obtain ⟨k, rfl⟩ : ∃ q, k = q + 1 := ⟨k - 1, by omega⟩
  have hlt : i < l1.length := by omega
  rw [PE.block_Encode.l1, if_pos (by omega), if_pos (by omega), if_pos (by omega), rd54 l1 i hlt, if_pos (by omega), w64s i (by omega), ih k (i + 1) _ (by omega) (by omega) (by rw [List.length_append]; simp; omega)]
  rw [drop_get l1 i hlt, List.flatMap_cons]
  simp [jB]
theorem enc_l0 (m : Nat) (hm : m ≤ 8) (a2 : Int) (l0 : List S56) (l1 : List S54) (l2 : List S67) (l3 l4 : List Bool) (hne : l0 ≠ []) (hs : nmSum (names l0) ≤ 1000000) (hn : (nmSt (names l0)).1.length ≤ 256) (h0 : l0.length ≤ 256) (h1 : l1.length ≤ 5000) (h2 : l2.length ≤ 5000) (h3 : l3.length ≤ 256) (h4 : l4.length ≤ 256) (d : Nat) :
  ∀ (k i : Nat) (x : List Int), i + d = l1.length → d + l1.length + l0.length + l2.length + 3 < k → x.length + 8 * d ≤ 80000 →
   PE.block_Encode.l0 k (m : Int) a2 x l1 (l1.length : Int) i l0 l1 l2 l3 l4 = some (x ++ (l1.drop i).flatMap (jA m) ++ l1.flatMap jB ++ (l0.zip (nmSt (names l0)).2.2).flatMap kA ++ bytesOf ⟨(nmSt (names l0)).1.toArray⟩ ++ l2.flatMap (lA m) ++ tr l3 ++ tr l4, a2, (l4.length : Int), (l3.length : Int), (l2.length : Int), (l1.length : Int), (l0.length : Int), ((nmSt (names l0)).1.length : Int), 0) := by
 induction d with
 | zero =>
  intro k i x hi hk hx
  obtain ⟨k, rfl⟩ : ∃ q, k = q + 1 := ⟨k - 1, by omega⟩
  rw [PE.block_Encode.l0, if_neg (by omega)]
  have h := enc_l1 m hm a2 l0 l1 l2 l3 l4 hne hs hn h0 h1 h2 h3 h4 l1.length k 0 x (by omega) (by omega) (by omega)
  rw [show ((0 : Nat) : Int) = 0 from rfl] at h
  rw [h, List.drop_of_length_le (show l1.length ≤ i by omega), List.drop_zero]
  simp
 | succ d ih =>
  intro k i x hi hk hx
  obtain ⟨k, rfl⟩ : ∃ q, k = q + 1 := ⟨k - 1, by omega⟩
  have hlt : i < l1.length := by omega
  rw [PE.block_Encode.l0, if_pos (by omega), if_pos (by omega), if_pos (by omega), rd54 l1 i hlt, put_f0 m hm _ [] (by simp), Option.bind_some]
  rw [if_pos (by rw [List.length_append, be_len]; simp; omega), w64s i (by omega), ih k (i + 1) _ (by omega) (by omega) (by rw [List.length_append, List.length_append, be_len]; simp; omega)]
  rw [drop_get l1 i hlt, List.flatMap_cons]
  simp [jA, u64w]
theorem enc_f (k : Nat) (l0 : List S56) (l1 : List S54) (l2 : List S67) (l3 l4 : List Bool) (a1 a2 : Int) (hok : encOK l0 l1 l2 l3 l4) (hk : 2 * l1.length + l0.length + l2.length + 8 ≤ k) :
  PE.block_Encode.f k l0 l1 l2 l3 l4 a1 a2 = some (encR l0 l1 l2 l3 l4 a1 a2) := by
 obtain ⟨k, rfl⟩ : ∃ q, k = q + 1 := ⟨k - 1, by omega⟩
 unfold PE.block_Encode.f encR
 by_cases c1 : a2 < 1
 ·
  rw [if_pos c1, PE.block_Encode.j0, if_pos rfl, if_neg (by omega)]
 ·
  rw [if_neg c1]
  by_cases c2 : a2 > 4
  ·
   rw [if_pos c2, PE.block_Encode.j0, if_pos rfl, if_neg (by omega)]
  ·
   rw [if_neg c2]
   have hr : Stub.block_Right.f l0 l1 l2 l3 l4 a1 a2 = some (rightB a1 a2 l0 l1 l2 l3 l4) := by
    unfold Stub.block_Right.f
    rw [if_pos hok]
   rw [hr, Option.bind_some, PE.block_Encode.j0]
   cases hb : rightB a1 a2 l0 l1 l2 l3 l4
   ·
    rw [if_pos (by rfl), if_neg (fun h => by cases h.2.2)]
   ·
    rw [if_neg (by decide), if_pos ⟨by omega, by omega, rfl⟩]
    obtain ⟨b1_, b2, b3, b4, b5, b6, b7, b8⟩ := rightB_bd hb
    obtain ⟨m, hm, rfl⟩ : ∃ m : Nat, m ≤ 8 ∧ a1 = (m : Int) := ⟨a1.toNat, by omega, by omega⟩
    have h := enc_l0 m hm a2 l0 l1 l2 l3 l4 (by intro e; rw [e] at b2; simp at b2) hok.2.1 b8 b3 b6 b7 (by omega) (by omega) l1.length k 0 [] (by omega) (by omega) (by simp; omega)
    rw [show ((0 : Nat) : Int) = 0 from rfl] at h
    rw [h]
    simp [encL]
end Go.Proofs.Ythobnoknbdljgaa
namespace Go.Proofs.Ythobnoknbdljgaa.Stub2
open Go.RowKit Go.Proofs.YthobnoknbdljgaaW.PrintWords PB0 Hand
def block_Encode.f (l0 : List S56) (l1 : List S54) (l2 : List S67) (l3 l4 : List Bool) (a1 a2 : Int) : Option (List Int × Int × Int × Int × Int × Int × Int × Int × Int) :=
 if encOK l0 l1 l2 l3 l4 then some (encR l0 l1 l2 l3 l4 a1 a2) else none
theorem block_Encode.calls (A0_0 : Option Addr) (c0_0 : Nat) (l0_0 : List S56) (A0_1 : Option Addr) (c0_1 : Nat) (l0_1 : List S54) (A0_2 : Option Addr) (c0_2 : Nat) (l0_2 : List S67) (A0_3 : Option Addr) (c0_3 : Nat) (l0_3 : List Bool) (A0_4 : Option Addr) (c0_4 : Nat) (l0_4 : List Bool) (a1 a2 : Int) (r1 : List Int) (r2 r3 r4 r5 r6 r7 r8 r9 : Int) (w : World) (hr0_0 : Kd.C k56 w A0_0 l0_0.length l0_0) (hc0_0 : l0_0.length ≤ c0_0) (hr0_1 : Kd.C k54 w A0_1 l0_1.length l0_1) (hc0_1 : l0_1.length ≤ c0_1) (hr0_2 : Kd.C k67 w A0_2 l0_2.length l0_2) (hc0_2 : l0_2.length ≤ c0_2) (hr0_3 : Kd.C Kd.bool w A0_3 l0_3.length l0_3) (hc0_3 : l0_3.length ≤ c0_3) (hr0_4 : Kd.C Kd.bool w A0_4 l0_4.length l0_4) (hc0_4 : l0_4.length ≤ c0_4) (h : block_Encode.f l0_0 l0_1 l0_2 l0_3 l0_4 a1 a2 = some (r1, r2, r3, r4, r5, r6, r7, r8, r9)) :
  Calls Try.prog 15 #[.agg #[.slice A0_0 l0_0.length c0_0, .slice A0_1 l0_1.length c0_1, .slice A0_2 l0_2.length c0_2, .slice A0_3 l0_3.length c0_3, .slice A0_4 l0_4.length c0_4], .int .i64 a1, .int .i64 a2] w fun e w' => ∃ v0_ : Value, e = .returned (.tuple #[v0_, .agg #[.int .i64 r2, .int .i64 r3, .int .i64 r4, .int .i64 r5, .int .i64 r6, .int .i64 r7, .int .i64 r8], .int .i64 r9]) ∧ Kd.R (Kd.int .u8) 5 w' w.heap.size (fun _ => True) v0_ r1 ∧ Below w.heap.size w w' := by
 unfold block_Encode.f at h
 split at h
 ·
  rename_i hok
  exact PE.block_Encode.calls _ A0_0 c0_0 l0_0 A0_1 c0_1 l0_1 A0_2 c0_2 l0_2 A0_3 c0_3 l0_3 A0_4 c0_4 l0_4 a1 a2 r1 r2 r3 r4 r5 r6 r7 r8 r9 w hr0_0 hc0_0 hr0_1 hc0_1 hr0_2 hc0_2 hr0_3 hc0_3 hr0_4 hc0_4 ((enc_f _ l0_0 l0_1 l0_2 l0_3 l0_4 a1 a2 hok (Nat.le_refl _)).trans h)
 ·
  cases h
end Go.Proofs.Ythobnoknbdljgaa.Stub2
end
section
namespace Go.Proofs.Ythobnoknbdljgaa
open Go.RowKit Hand PB0
def shK : List S56 := [⟨-5, false, ⟨#[65]⟩⟩, ⟨3600, true, ⟨#[66, 67]⟩⟩]
def shJ : List S54 := [⟨-9, 1⟩, ⟨7, 0⟩]
def shB : List Int := (encR shK shJ [] [] [] 4 1).1
theorem sh_enc : Stub2.block_Encode.f shK shJ [] [] [] 4 1 = some (shB, 1, 0, 0, 0, 2, 2, 5, 0) := by kernel_rfl
theorem sh_dec : block_Decode.f shB 1 0 0 0 2 2 5 4 = some (shK, shJ, [], [], [], 0) := by kernel_rfl
theorem sh_no : Stub2.block_Encode.f [] [] [] [] [] 4 1 = some ([], 0, 0, 0, 0, 0, 0, 0, 1) := by kernel_rfl
theorem sh_short : block_Decode.f [] 1 0 0 0 2 2 5 4 = some ([], [], [], [], [], 5) := by kernel_rfl
theorem sh_right : Stub.block_Right.f shK shJ [] [] [] 8 2 = some true := by kernel_rfl
theorem sh_len : shB.length = 27 := by kernel_rfl
end Go.Proofs.Ythobnoknbdljgaa
namespace Go.Proofs.Ythobnoknbdljgaa.Hand
open Go.RowKit Go.Proofs.YthobnoknbdljgaaW.PrintWords Go.Proofs.YthobnoknbdljgaaW.PrintLast Go.Proofs.YthobnoknbdljgaaW.PrintMore PB0
set_option linter.unusedVariables false
set_option linter.unusedSimpArgs false
theorem eqA56 (d : Nat) (w : World) (x0 y0 : Int) (x1 y1 : Bool) (x2 y2 : ByteArray) :
  (Op.equalIn (d + 2) 56 (.agg #[.int .i64 x0, .bool x1, .string x2]) (.agg #[.int .i64 y0, .bool y1, .string y2])).run Try.prog w = .ok (x0 == y0 && (x1 == y1 && (x2.toList == y2.toList))) w := by
 refine eqA_of Try.underlying56 (by kernel_rfl) ?_
 refine eqf_cons (by rfl) (by go_simp; rfl) (by go_simp; rfl) (by go_simp) ?_
 refine eqf_cons (by rfl) (by go_simp; rfl) (by go_simp; rfl) (by go_simp) ?_
 exact eqf_last (by rfl) (by go_simp; rfl) (by go_simp; rfl) (by go_simp)
theorem eqA54 (d : Nat) (w : World) (x0 y0 : Int) (x1 y1 : Int) :
  (Op.equalIn (d + 2) 54 (.agg #[.int .i64 x0, .int .i64 x1]) (.agg #[.int .i64 y0, .int .i64 y1])).run Try.prog w = .ok (x0 == y0 && (x1 == y1)) w := by
 refine eqA_of Try.underlying54 (by kernel_rfl) ?_
 refine eqf_cons (by rfl) (by go_simp; rfl) (by go_simp; rfl) (by go_simp) ?_
 exact eqf_last (by rfl) (by go_simp; rfl) (by go_simp; rfl) (by go_simp)
theorem eqK_self (d : Nat) (w : World) (a : Int) (b : Bool) (c : ByteArray) : (Op.equalIn (d + 2) 56 (.agg #[.int .i64 a, .bool b, .string c]) (.agg #[.int .i64 a, .bool b, .string c])).run Try.prog w = .ok true w := by
 rw [eqA56]; simp
theorem eqJ_self (d : Nat) (w : World) (a b : Int) : (Op.equalIn (d + 2) 54 (.agg #[.int .i64 a, .int .i64 b]) (.agg #[.int .i64 a, .int .i64 b])).run Try.prog w = .ok true w := by
 rw [eqA54]; simp
section
variable {w w0 : World} {g g' : Nat} {t : TypeId} {c0 c1 c2 c3 c4 c5 c6 v0 v1 v2 v3 v4 v5 v6 : Value}
theorem put7_at (h : w.heap[g]? = some (.cells #[c0, c1, c2, c3, c4, c5, c6] t (0, 0))) :
  (((((((w.setCell ⟨g, 0, none⟩ v0).setCell ⟨g, 1, none⟩ v1).setCell ⟨g, 2, none⟩ v2).setCell ⟨g, 3, none⟩ v3).setCell ⟨g, 4, none⟩ v4).setCell ⟨g, 5, none⟩ v5).setCell ⟨g, 6, none⟩ v6).heap[g]? = some (.cells #[v0, v1, v2, v3, v4, v5, v6] t (0, 0)) := by
 have h1 := blk_put (cs' := #[v0, c1, c2, c3, c4, c5, c6]) h 0 v0 rfl
 have h2 := blk_put (cs' := #[v0, v1, c2, c3, c4, c5, c6]) h1 1 v1 rfl
 have h3 := blk_put (cs' := #[v0, v1, v2, c3, c4, c5, c6]) h2 2 v2 rfl
 have h4 := blk_put (cs' := #[v0, v1, v2, v3, c4, c5, c6]) h3 3 v3 rfl
 have h5 := blk_put (cs' := #[v0, v1, v2, v3, v4, c5, c6]) h4 4 v4 rfl
 have h6 := blk_put (cs' := #[v0, v1, v2, v3, v4, v5, c6]) h5 5 v5 rfl
 exact blk_put (cs' := #[v0, v1, v2, v3, v4, v5, v6]) h6 6 v6 rfl
theorem put7_far {cs : Array Value} (h : w.heap[g']? = some (.cells cs t (0, 0))) (hn : g' ≠ g) :
  (((((((w.setCell ⟨g, 0, none⟩ v0).setCell ⟨g, 1, none⟩ v1).setCell ⟨g, 2, none⟩ v2).setCell ⟨g, 3, none⟩ v3).setCell ⟨g, 4, none⟩ v4).setCell ⟨g, 5, none⟩ v5).setCell ⟨g, 6, none⟩ v6).heap[g']? = some (.cells cs t (0, 0)) :=
 blk_far (blk_far (blk_far (blk_far (blk_far (blk_far (blk_far h hn v0) hn v1) hn v2) hn v3) hn v4) hn v5) hn v6
theorem put7_below (h : Below w0.heap.size w0 w) (hg : w0.heap.size ≤ g) :
  Below w0.heap.size w0 (((((((w.setCell ⟨g, 0, none⟩ v0).setCell ⟨g, 1, none⟩ v1).setCell ⟨g, 2, none⟩ v2).setCell ⟨g, 3, none⟩ v3).setCell ⟨g, 4, none⟩ v4).setCell ⟨g, 5, none⟩ v5).setCell ⟨g, 6, none⟩ v6) :=
 below_set (below_set (below_set (below_set (below_set (below_set (below_set h hg) hg) hg) hg) hg) hg) hg
theorem put7_R {α : Type} {d : Kd α} {e base : Nat} {ok : Nat → Prop} {v : Value} {xs : List α} {cs : Array Value} (h : d.R e w base ok v xs) (hb : w.heap[g]? = some (.cells cs t (0, 0))) (ht : ∀ q, q ∈ e :: d.E → q ≠ t) :
  d.R e (((((((w.setCell ⟨g, 0, none⟩ v0).setCell ⟨g, 1, none⟩ v1).setCell ⟨g, 2, none⟩ v2).setCell ⟨g, 3, none⟩ v3).setCell ⟨g, 4, none⟩ v4).setCell ⟨g, 5, none⟩ v5).setCell ⟨g, 6, none⟩ v6) base ok v xs := by
 refine Kd.R_mono (Kd.R_step (Kd.R_types h hb ht) (fun k hk _ => ?_)) (fun _ hk => hk.1)
 rw [heap_setO hk.2, heap_setO hk.2, heap_setO hk.2, heap_setO hk.2, heap_setO hk.2, heap_setO hk.2, heap_setO hk.2]
end
theorem R_len {α : Type} {d : Kd α} {e base : Nat} {ok : Nat → Prop} {w : World} {v : Value} {xs : List α} (n : Nat) (hn : xs.length = n) (h : d.R e w base ok v xs) : ∃ A c, v = .slice A n c := by
 obtain ⟨A, c, e⟩ := Kd.R_slice h
 exact ⟨A, c, by rw [e, hn]⟩
theorem nilC {α : Type} (d : Kd α) (w : World) : Kd.C d w none 0 [] := (Kd.R_reads' (Kd.R_nil d 0 w 0 (fun _ => True))).2.2
theorem shc1 {b : Nat} {ok : Nat → Prop} {A1 A2 : Option Addr} {c1 c2 : Nat} (w : World) (h1 : Kd.R k56 56 w b ok (.slice A1 2 c1) shK) (h2 : Kd.R k54 54 w b ok (.slice A2 2 c2) shJ) : Calls Try.prog 15 #[.agg #[.slice A1 2 c1, .slice A2 2 c2, .slice none 0 0, .slice none 0 0, .slice none 0 0], .int .i64 4, .int .i64 1] w fun e w' => ∃ v0_ : Value, e = .returned (.tuple #[v0_, .agg #[.int .i64 1, .int .i64 0, .int .i64 0, .int .i64 0, .int .i64 2, .int .i64 2, .int .i64 5], .int .i64 0]) ∧ Kd.R (Kd.int .u8) 5 w' w.heap.size (fun _ => True) v0_ shB ∧ Below w.heap.size w w' :=
 Stub2.block_Encode.calls A1 c1 shK A2 c2 shJ none 0 [] none 0 [] none 0 [] 4 1 shB 1 0 0 0 2 2 5 0 w (Kd.R_reads' h1).2.2 (Kd.R_reads' h1).2.1 (Kd.R_reads' h2).2.2 (Kd.R_reads' h2).2.1 (nilC _ _) (Nat.le_refl _) (nilC _ _) (Nat.le_refl _) (nilC _ _) (Nat.le_refl _) sh_enc
theorem shc2 {b : Nat} {ok : Nat → Prop} {A : Option Addr} {c : Nat} (w : World) (h : Kd.R (Kd.int .u8) 5 w b ok (.slice A 27 c) shB) : Calls Try.prog 21 #[.slice A 27 c, .agg #[.int .i64 1, .int .i64 0, .int .i64 0, .int .i64 0, .int .i64 2, .int .i64 2, .int .i64 5], .int .i64 4] w fun e w' => ∃ v0_ v1_ v2_ v3_ v4_ : Value, e = .returned (.tuple #[.agg #[v0_, v1_, v2_, v3_, v4_], .int .i64 0]) ∧ Kd.R k56 56 w' w.heap.size (fun _ => True) v0_ shK ∧ Kd.R k54 54 w' w.heap.size (fun _ => True) v1_ shJ ∧ Kd.R k67 67 w' w.heap.size (fun _ => True) v2_ [] ∧ Kd.R Kd.bool 4 w' w.heap.size (fun k_ => some k_ ≠ (v4_ : Value).ownBlock) v3_ [] ∧ Kd.R Kd.bool 4 w' w.heap.size (fun k_ => some k_ ≠ (v3_ : Value).ownBlock) v4_ [] ∧ Below w.heap.size w w' := by
 have hl := (Kd.R_reads' h)
 have q := Stub.block_Decode.calls A c shB 1 0 0 0 2 2 5 4 shK shJ [] [] [] 0 w (by rw [sh_len]; have := hl.2.2; rwa [sh_len] at this) (by rw [sh_len]; exact hl.2.1) sh_dec
 rwa [sh_len] at q
theorem shc3 (w : World) : Calls Try.prog 15 #[.agg #[.slice none 0 0, .slice none 0 0, .slice none 0 0, .slice none 0 0, .slice none 0 0], .int .i64 4, .int .i64 1] w fun e w' => ∃ v0_ : Value, e = .returned (.tuple #[v0_, .agg #[.int .i64 0, .int .i64 0, .int .i64 0, .int .i64 0, .int .i64 0, .int .i64 0, .int .i64 0], .int .i64 1]) ∧ Kd.R (Kd.int .u8) 5 w' w.heap.size (fun _ => True) v0_ [] ∧ Below w.heap.size w w' :=
 Stub2.block_Encode.calls none 0 [] none 0 [] none 0 [] none 0 [] none 0 [] 4 1 [] 0 0 0 0 0 0 0 1 w (nilC _ _) (Nat.le_refl _) (nilC _ _) (Nat.le_refl _) (nilC _ _) (Nat.le_refl _) (nilC _ _) (Nat.le_refl _) (nilC _ _) (Nat.le_refl _) sh_no
theorem shc4 (w : World) : Calls Try.prog 21 #[.slice none 0 0, .agg #[.int .i64 1, .int .i64 0, .int .i64 0, .int .i64 0, .int .i64 2, .int .i64 2, .int .i64 5], .int .i64 4] w fun e w' => ∃ v0_ v1_ v2_ v3_ v4_ : Value, e = .returned (.tuple #[.agg #[v0_, v1_, v2_, v3_, v4_], .int .i64 5]) ∧ Kd.R k56 56 w' w.heap.size (fun _ => True) v0_ [] ∧ Kd.R k54 54 w' w.heap.size (fun _ => True) v1_ [] ∧ Kd.R k67 67 w' w.heap.size (fun _ => True) v2_ [] ∧ Kd.R Kd.bool 4 w' w.heap.size (fun k_ => some k_ ≠ (v4_ : Value).ownBlock) v3_ [] ∧ Kd.R Kd.bool 4 w' w.heap.size (fun k_ => some k_ ≠ (v3_ : Value).ownBlock) v4_ [] ∧ Below w.heap.size w w' :=
 Stub.block_Decode.calls none 0 [] 1 0 0 0 2 2 5 4 [] [] [] [] [] 5 w (nilC _ _) (Nat.le_refl _) sh_short
theorem shc5 {b : Nat} {ok : Nat → Prop} {A1 A2 : Option Addr} {c1 c2 : Nat} (w : World) (h1 : Kd.R k56 56 w b ok (.slice A1 2 c1) shK) (h2 : Kd.R k54 54 w b ok (.slice A2 2 c2) shJ) : Calls Try.prog 16 #[.agg #[.slice A1 2 c1, .slice A2 2 c2, .slice none 0 0, .slice none 0 0, .slice none 0 0], .int .i64 8, .int .i64 2] w fun e w' => e = .returned (.bool true) ∧ Below w.heap.size w w' :=
 Stub.block_Right.calls A1 c1 shK A2 c2 shJ none 0 [] none 0 [] none 0 [] 8 2 true w (Kd.R_reads' h1).2.2 (Kd.R_reads' h1).2.1 (Kd.R_reads' h2).2.2 (Kd.R_reads' h2).2.1 (nilC _ _) (Nat.le_refl _) (nilC _ _) (Nat.le_refl _) (nilC _ _) (Nat.le_refl _) sh_right
theorem R_form2 {α : Type} {d : Kd α} {e base : Nat} {ok : Nat → Prop} {w : World} {A : Option Addr} {n c : Nat} {xs : List α} (h : d.R e w base ok (.slice A n c) xs) (hn : 0 < xs.length) : ∃ g, A = some ⟨g, 0, none⟩ := by
 obtain ⟨g, cap, hv, _⟩ := Kd.R_form h hn
 injection hv with e1 _ _
 exact ⟨g, e1⟩
theorem sh_kind {b : Nat} {ok : Nat → Prop} {g c : Nat} {w : World} (h : Kd.R k56 56 w b ok (.slice (some ⟨g, 0, none⟩) 2 c) shK) :
  w.cell? ⟨g, 3, none⟩ = some (.int .i64 3600) ∧ w.cell? ⟨g, 4, none⟩ = some (.bool true) ∧ w.cell? ⟨g, 5, none⟩ = some (.string ⟨#[66, 67]⟩) := by
 obtain ⟨cs, hcl, hM, hcc, hf⟩ := Kd.R_elem h z56 1 (by omega) (by omega)
 have hc := k56_openM hM
 subst hc
 exact ⟨hcc 0 _ rfl, hcc 1 _ rfl, hcc 2 _ rfl⟩
theorem sh_jump {b : Nat} {ok : Nat → Prop} {g c : Nat} {w : World} (h : Kd.R k54 54 w b ok (.slice (some ⟨g, 0, none⟩) 2 c) shJ) :
  w.cell? ⟨g, 0, none⟩ = some (.int .i64 (-9)) ∧ w.cell? ⟨g, 1, none⟩ = some (.int .i64 1) := by
 obtain ⟨cs, hcl, hM, hcc, hf⟩ := Kd.R_elem h z54 0 (by omega) (by omega)
 have hc := k54_openM hM
 subst hc
 exact ⟨hcc 0 _ rfl, hcc 1 _ rfl⟩
theorem sh_S {w w' : World} {g1 g3 g5 a1 a2 a5 a6 c1 c2 c5 c6 c7 c8 c9 : Nat} {A7 A8 A9 : Option Addr} (b0 : Aside0 (w'.heap[g1]? = some (.cells #[.slice (some ⟨a1, 0, none⟩) 2 c1, .slice (some ⟨a2, 0, none⟩) 2 c2, .slice none 0 0, .slice none 0 0, .slice none 0 0] 27 (0, 0)))) (b1 : Aside0 (w'.heap[g3]? = some (.cells #[.int .i64 1, .int .i64 0, .int .i64 0, .int .i64 0, .int .i64 2, .int .i64 2, .int .i64 5] 35 (0, 0)))) (b2 : Aside0 (w'.heap[g5]? = some (.cells #[.slice (some ⟨a5, 0, none⟩) 2 c5, .slice (some ⟨a6, 0, none⟩) 2 c6, .slice A7 0 c7, .slice A8 0 c8, .slice A9 0 c9] 27 (0, 0)))) (b3 : Aside0 (Kd.R k56 56 w' w.heap.size (fun _ => True) (.slice (some ⟨a1, 0, none⟩) 2 c1) shK)) (b4 : Aside0 (Kd.R k54 54 w' w.heap.size (fun _ => True) (.slice (some ⟨a2, 0, none⟩) 2 c2) shJ)) (b5 : Aside0 (Kd.R k56 56 w' w.heap.size (fun _ => True) (.slice (some ⟨a5, 0, none⟩) 2 c5) shK)) (b6 : Aside0 (Kd.R k54 54 w' w.heap.size (fun _ => True) (.slice (some ⟨a6, 0, none⟩) 2 c6) shJ)) (b7 : Aside0 (Below w.heap.size w w')) : w'.cell? ⟨g1, 0, none⟩ = some (.slice (some ⟨a1, 0, none⟩) 2 c1) ∧ w'.cell? ⟨g1, 1, none⟩ = some (.slice (some ⟨a2, 0, none⟩) 2 c2) ∧ w'.cell? ⟨g1, 2, none⟩ = some (.slice none 0 0) ∧ w'.cell? ⟨g1, 3, none⟩ = some (.slice none 0 0) ∧ w'.cell? ⟨g1, 4, none⟩ = some (.slice none 0 0) ∧ w'.cell? ⟨g3, 6, none⟩ = some (.int .i64 5) ∧ w'.cell? ⟨g5, 0, none⟩ = some (.slice (some ⟨a5, 0, none⟩) 2 c5) ∧ w'.cell? ⟨g5, 1, none⟩ = some (.slice (some ⟨a6, 0, none⟩) 2 c6) ∧ w'.cell? ⟨a1, 3, none⟩ = some (.int .i64 3600) ∧ w'.cell? ⟨a1, 4, none⟩ = some (.bool true) ∧ w'.cell? ⟨a1, 5, none⟩ = some (.string ⟨#[66, 67]⟩) ∧ w'.cell? ⟨a5, 3, none⟩ = some (.int .i64 3600) ∧ w'.cell? ⟨a5, 4, none⟩ = some (.bool true) ∧ w'.cell? ⟨a5, 5, none⟩ = some (.string ⟨#[66, 67]⟩) ∧ w'.cell? ⟨a2, 0, none⟩ = some (.int .i64 (-9)) ∧ w'.cell? ⟨a2, 1, none⟩ = some (.int .i64 1) ∧ w'.cell? ⟨a6, 0, none⟩ = some (.int .i64 (-9)) ∧ w'.cell? ⟨a6, 1, none⟩ = some (.int .i64 1) ∧ Aside0 (w'.heap[g1]? = some (.cells #[.slice (some ⟨a1, 0, none⟩) 2 c1, .slice (some ⟨a2, 0, none⟩) 2 c2, .slice none 0 0, .slice none 0 0, .slice none 0 0] 27 (0, 0))) ∧ Aside0 (w'.heap[g3]? = some (.cells #[.int .i64 1, .int .i64 0, .int .i64 0, .int .i64 0, .int .i64 2, .int .i64 2, .int .i64 5] 35 (0, 0))) ∧ Aside0 (w'.heap[g5]? = some (.cells #[.slice (some ⟨a5, 0, none⟩) 2 c5, .slice (some ⟨a6, 0, none⟩) 2 c6, .slice A7 0 c7, .slice A8 0 c8, .slice A9 0 c9] 27 (0, 0))) ∧ Aside0 (Kd.R k56 56 w' w.heap.size (fun _ => True) (.slice (some ⟨a1, 0, none⟩) 2 c1) shK) ∧ Aside0 (Kd.R k54 54 w' w.heap.size (fun _ => True) (.slice (some ⟨a2, 0, none⟩) 2 c2) shJ) ∧ Aside0 (Kd.R k56 56 w' w.heap.size (fun _ => True) (.slice (some ⟨a5, 0, none⟩) 2 c5) shK) ∧ Aside0 (Kd.R k54 54 w' w.heap.size (fun _ => True) (.slice (some ⟨a6, 0, none⟩) 2 c6) shJ) ∧ Aside0 (Below w.heap.size w w') :=
 ⟨(blk_cell b0.out 0).trans rfl, (blk_cell b0.out 1).trans rfl, (blk_cell b0.out 2).trans rfl, (blk_cell b0.out 3).trans rfl, (blk_cell b0.out 4).trans rfl, (blk_cell b1.out 6).trans rfl, (blk_cell b2.out 0).trans rfl, (blk_cell b2.out 1).trans rfl, (sh_kind b3.out).1, (sh_kind b3.out).2.1, (sh_kind b3.out).2.2, (sh_kind b5.out).1, (sh_kind b5.out).2.1, (sh_kind b5.out).2.2, (sh_jump b4.out).1, (sh_jump b4.out).2, (sh_jump b6.out).1, (sh_jump b6.out).2, b0, b1, b2, b3, b4, b5, b6, b7⟩
set_option maxHeartbeats 4000000 in
set_option maxRecDepth 100000 in
theorem shown_walk (w : World) : Calls Try.prog 11 #[] w fun e w' => e = .returned (.bool true) ∧ Below w.heap.size w w' := by
 have hu27 := Try.underlying27
 have hu35 := Try.underlying35
 have hu56 := Try.underlying56
 have hu54 := Try.underlying54
 have HB := Aside0.mk (Below.refl w.heap.size w)
 go_enter Try.func11, Try.ntmps11
 go_upto_region 2 with (first
  | ((with_reducible refine gate_dst (N := 14) rfl ?_); refine Kd.R_lit k56 _ 56 ?hg (N := 14) ?hd (xs := shK) (inner := [.int .i64 (-5), .bool false, .string (⟨#[65]⟩ : ByteArray), .int .i64 3600, .bool true, .string (⟨#[66, 67]⟩ : ByteArray)]) (ok := fun _ => True) (okp := fun _ => True) ?hr ?hp (fun _ hk => hk) trivial (Below.refl _ _) (Nat.le_refl _) (by simp [shK]) ?_; (case hd => rfl); (case hg => rfl); (case hr => first | (go_simp; done) | (go_simp; rfl)); (case hp => exact (Reps.c3 (show Kd.M k56 _ _ _ (⟨(-5), false, (⟨#[65]⟩ : ByteArray)⟩ : S56) _ from (k56_mkM _ _ _ _)) (Reps.c3 (show Kd.M k56 _ _ _ (⟨3600, true, (⟨#[66, 67]⟩ : ByteArray)⟩ : S56) _ from (k56_mkM _ _ _ _)) (Reps.none _ _)))); intro v1 w1 ho hb hg_ hnew_; clear hg_ hnew_; obtain ⟨A1, c1, rfl⟩ := R_len 2 rfl ho; have HK := Aside0.mk ho; clear ho; have n0_ := Aside0.mk (below_step HB.out hb); clear HB; have HB := n0_; clear n0_ hb)
  | ((with_reducible refine gate_dst (N := 17) rfl ?_); refine Kd.R_lit k54 _ 54 ?hg (N := 17) ?hd (xs := shJ) (inner := [.int .i64 (-9), .int .i64 1, .int .i64 7, .int .i64 0]) (ok := fun _ => True) (okp := fun _ => True) ?hr ?hp (fun _ hk => hk) trivial (Below.refl _ _) (Nat.le_refl _) (by simp [shJ]) ?_; (case hd => rfl); (case hg => rfl); (case hr => first | (go_simp; done) | (go_simp; rfl)); (case hp => exact (Reps.c2 (show Kd.M k54 _ _ _ (⟨-9, 1⟩ : S54) _ from (k54_mkM _ _ _ _)) (Reps.c2 (show Kd.M k54 _ _ _ (⟨7, 0⟩ : S54) _ from (k54_mkM _ _ _ _)) (Reps.none _ _)))); intro v2 w2 ho hb hg_ hnew_; clear hg_ hnew_; obtain ⟨A2, c2, rfl⟩ := R_len 2 rfl ho; have HJ := Aside0.mk (Kd.R_lower ho (below_size HB.out)); clear ho; have n0_ := Aside0.mk (Kd.R_below HK.out hb); have n1_ := Aside0.mk (below_step HB.out hb); clear HK HB; have HK := n0_; have HB := n1_; clear n0_ n1_ hb)
  | ((with_reducible refine gate_dst (N := 1) rfl ?_); refine box_event ?hg (N := 1) ?hd (cs := #[.slice none 0 0, .slice none 0 0, .slice none 0 0, .slice none 0 0, .slice none 0 0]) (t := 27) ?hr ?_; (case hd => rfl); (case hg => rfl); (case hr => first | (go_simp; done) | (go_simp; rfl)); intro g1 hg w_g1 hbox hb; have Bg1 := Aside0.mk hbox; have GEg1 := Aside0.mk (show w.heap.size ≤ g1 by first | omega | (have h_ := below_size HB.out; omega)); clear hbox hg; have n0_ := Aside0.mk (Kd.R_below HK.out hb); have n1_ := Aside0.mk (Kd.R_below HJ.out hb); have n2_ := Aside0.mk (below_step HB.out hb); clear HK HJ HB; have HK := n0_; have HJ := n1_; have HB := n2_; clear n0_ n1_ n2_ hb; obtain ⟨z0, z1, z2, z3, z4⟩ := Sq.c5 Bg1; have y0 := blk_frozen Bg1.out 0; have y1 := blk_frozen Bg1.out 1; have y2 := blk_frozen Bg1.out 2; have y3 := blk_frozen Bg1.out 3; have y4 := blk_frozen Bg1.out 4))
 refine forget_wp (fun wc => Aside0 (wc.heap[g1]? = some (.cells #[.slice A1 2 c1, .slice A2 2 c2, .slice none 0 0, .slice none 0 0, .slice none 0 0] 27 (0, 0))) ∧ Aside0 (Kd.R k56 56 wc w.heap.size (fun _ => True) (.slice A1 2 c1) shK) ∧ Aside0 (Kd.R k54 54 wc w.heap.size (fun _ => True) (.slice A2 2 c2) shJ) ∧ Aside0 (Below w.heap.size w wc)) ⟨⟨put5_at Bg1.out⟩, ⟨put5_R HK.out Bg1.out (by decide)⟩, ⟨put5_R HJ.out Bg1.out (by decide)⟩, ⟨put5_below HB.out GEg1.out⟩⟩ ?_
 clear Bg1 HK HJ HB z0 z1 z2 z3 z4 y0 y1 y2 y3 y4
 rintro w3 ⟨B1, HK, HJ, HB⟩
 obtain ⟨s0, s1, s2, s3, s4⟩ := Sq.c5 B1
 go_upto_region 3 with (first
  | (go_at_call 15; (with_reducible refine (shc1 _ HK.out HJ.out).mono ?_); rintro e w4 ⟨v4, rfl, ho, hb⟩; obtain ⟨A3, c3, rfl⟩ := R_len 27 sh_len ho; have HD := Aside0.mk (Kd.R_lower ho (below_size HB.out)); clear ho; have n0_ := Aside0.mk (blk_below B1.out hb); have n1_ := Aside0.mk (Kd.R_below HK.out hb); have n2_ := Aside0.mk (Kd.R_below HJ.out hb); have n3_ := Aside0.mk (below_step HB.out hb); clear B1 HK HJ HB; have B1 := n0_; have HK := n1_; have HJ := n2_; have HB := n3_; clear n0_ n1_ n2_ n3_ hb)
  | ((with_reducible refine gate_dst (N := 3) rfl ?_); refine box_event ?hg (N := 3) ?hd (cs := #[.int .i64 0, .int .i64 0, .int .i64 0, .int .i64 0, .int .i64 0, .int .i64 0, .int .i64 0]) (t := 35) ?hr ?_; (case hd => rfl); (case hg => rfl); (case hr => first | (go_simp; done) | (go_simp; rfl)); intro g3 hg w_g3 hbox hb; have Bg3 := Aside0.mk hbox; have GEg3 := Aside0.mk (show w.heap.size ≤ g3 by first | omega | (have h_ := below_size HB.out; omega)); clear hbox hg; have n0_ := Aside0.mk (blk_below B1.out hb); have n1_ := Aside0.mk (Kd.R_below HK.out hb); have n2_ := Aside0.mk (Kd.R_below HJ.out hb); have n3_ := Aside0.mk (Kd.R_below HD.out hb); have n4_ := Aside0.mk (below_step HB.out hb); clear B1 HK HJ HD HB; have B1 := n0_; have HK := n1_; have HJ := n2_; have HD := n3_; have HB := n4_; clear n0_ n1_ n2_ n3_ n4_ hb; obtain ⟨z0, z1, z2, z3, z4, z5, z6⟩ := Sq.c7 Bg3; have y0 := blk_frozen Bg3.out 0; have y1 := blk_frozen Bg3.out 1; have y2 := blk_frozen Bg3.out 2; have y3 := blk_frozen Bg3.out 3; have y4 := blk_frozen Bg3.out 4; have y5 := blk_frozen Bg3.out 5; have y6 := blk_frozen Bg3.out 6; have NE13 := Aside0.mk (blk_ne B1.out Bg3.out (by decide))))
 refine forget_wp (fun wc => Aside0 (wc.heap[g1]? = some (.cells #[.slice A1 2 c1, .slice A2 2 c2, .slice none 0 0, .slice none 0 0, .slice none 0 0] 27 (0, 0))) ∧ Aside0 (wc.heap[g3]? = some (.cells #[.int .i64 1, .int .i64 0, .int .i64 0, .int .i64 0, .int .i64 2, .int .i64 2, .int .i64 5] 35 (0, 0))) ∧ Aside0 (Kd.R k56 56 wc w.heap.size (fun _ => True) (.slice A1 2 c1) shK) ∧ Aside0 (Kd.R k54 54 wc w.heap.size (fun _ => True) (.slice A2 2 c2) shJ) ∧ Aside0 (Kd.R (Kd.int .u8) 5 wc w.heap.size (fun _ => True) (.slice A3 27 c3) shB) ∧ Aside0 (Below w.heap.size w wc)) ⟨⟨put7_far B1.out NE13.out⟩, ⟨put7_at Bg3.out⟩, ⟨put7_R HK.out Bg3.out (by decide)⟩, ⟨put7_R HJ.out Bg3.out (by decide)⟩, ⟨put7_R HD.out Bg3.out (by decide)⟩, ⟨put7_below HB.out GEg3.out⟩⟩ ?_
 clear B1 Bg3 HK HJ HD HB s0 s1 s2 s3 s4 z0 z1 z2 z3 z4 z5 z6 y0 y1 y2 y3 y4 y5 y6
 rintro w5 ⟨B1, B3, HK, HJ, HD, HB⟩
 obtain ⟨s0, s1, s2, s3, s4, s5, s6⟩ := Sq.c7 B3
 go_upto_region 4 with (first
  | (go_at_call 21; (with_reducible refine (shc2 _ HD.out).mono ?_); rintro e w6 ⟨v10, v11, v12, v13, v14, rfl, ho0, ho1, ho2, ho3, ho4, hb⟩; obtain ⟨A5, c5, rfl⟩ := R_len 2 rfl ho0; obtain ⟨A6, c6, rfl⟩ := R_len 2 rfl ho1; obtain ⟨A7, c7, rfl⟩ := R_len 0 rfl ho2; obtain ⟨A8, c8, rfl⟩ := R_len 0 rfl ho3; obtain ⟨A9, c9, rfl⟩ := R_len 0 rfl ho4; have HK2 := Aside0.mk (Kd.R_lower ho0 (below_size HB.out)); have HJ2 := Aside0.mk (Kd.R_lower ho1 (below_size HB.out)); clear ho0 ho1 ho2 ho3 ho4 HD; have n0_ := Aside0.mk (blk_below B1.out hb); have n1_ := Aside0.mk (blk_below B3.out hb); have n2_ := Aside0.mk (Kd.R_below HK.out hb); have n3_ := Aside0.mk (Kd.R_below HJ.out hb); have n4_ := Aside0.mk (below_step HB.out hb); clear B1 B3 HK HJ HB; have B1 := n0_; have B3 := n1_; have HK := n2_; have HJ := n3_; have HB := n4_; clear n0_ n1_ n2_ n3_ n4_ hb)
  | ((with_reducible refine gate_dst (N := 5) rfl ?_); refine box_event ?hg (N := 5) ?hd (cs := #[.slice none 0 0, .slice none 0 0, .slice none 0 0, .slice none 0 0, .slice none 0 0]) (t := 27) ?hr ?_; (case hd => rfl); (case hg => rfl); (case hr => first | (go_simp; done) | (go_simp; rfl)); intro g5 hg w_g5 hbox hb; have Bg5 := Aside0.mk hbox; have GEg5 := Aside0.mk (show w.heap.size ≤ g5 by first | omega | (have h_ := below_size HB.out; omega)); have NE15 := Aside0.mk (show g1 ≠ g5 by have := blk_lt B1.out; omega); clear hbox hg; have n0_ := Aside0.mk (blk_below B1.out hb); have n1_ := Aside0.mk (blk_below B3.out hb); have n2_ := Aside0.mk (Kd.R_below HK.out hb); have n3_ := Aside0.mk (Kd.R_below HJ.out hb); have n4_ := Aside0.mk (Kd.R_below HK2.out hb); have n5_ := Aside0.mk (Kd.R_below HJ2.out hb); have n6_ := Aside0.mk (below_step HB.out hb); clear B1 B3 HK HJ HK2 HJ2 HB; have B1 := n0_; have B3 := n1_; have HK := n2_; have HJ := n3_; have HK2 := n4_; have HJ2 := n5_; have HB := n6_; clear n0_ n1_ n2_ n3_ n4_ n5_ n6_ hb; obtain ⟨z0, z1, z2, z3, z4⟩ := Sq.c5 Bg5; have y0 := blk_frozen Bg5.out 0; have y1 := blk_frozen Bg5.out 1; have y2 := blk_frozen Bg5.out 2; have y3 := blk_frozen Bg5.out 3; have y4 := blk_frozen Bg5.out 4; have NE35 := Aside0.mk (blk_ne B3.out Bg5.out (by decide))))
 have B5 := Bg5
 refine forget_wp (fun wc => Aside0 (wc.heap[g1]? = some (.cells #[.slice A1 2 c1, .slice A2 2 c2, .slice none 0 0, .slice none 0 0, .slice none 0 0] 27 (0, 0))) ∧ Aside0 (wc.heap[g3]? = some (.cells #[.int .i64 1, .int .i64 0, .int .i64 0, .int .i64 0, .int .i64 2, .int .i64 2, .int .i64 5] 35 (0, 0))) ∧ Aside0 (wc.heap[g5]? = some (.cells #[.slice A5 2 c5, .slice A6 2 c6, .slice A7 0 c7, .slice A8 0 c8, .slice A9 0 c9] 27 (0, 0))) ∧ Aside0 (Kd.R k56 56 wc w.heap.size (fun _ => True) (.slice A1 2 c1) shK) ∧ Aside0 (Kd.R k54 54 wc w.heap.size (fun _ => True) (.slice A2 2 c2) shJ) ∧ Aside0 (Kd.R k56 56 wc w.heap.size (fun _ => True) (.slice A5 2 c5) shK) ∧ Aside0 (Kd.R k54 54 wc w.heap.size (fun _ => True) (.slice A6 2 c6) shJ) ∧ Aside0 (Below w.heap.size w wc)) ⟨⟨put5_far B1.out NE15.out⟩, ⟨put5_far B3.out NE35.out⟩, ⟨put5_at Bg5.out⟩, ⟨put5_R HK.out Bg5.out (by decide)⟩, ⟨put5_R HJ.out Bg5.out (by decide)⟩, ⟨put5_R HK2.out Bg5.out (by decide)⟩, ⟨put5_R HJ2.out Bg5.out (by decide)⟩, ⟨put5_below HB.out GEg5.out⟩⟩ ?_
 clear B1 B3 B5 HK HJ HK2 HJ2 HB Bg5 s0 s1 s2 s3 s4 s5 s6 z0 z1 z2 z3 z4 y0 y1 y2 y3 y4
 rintro w7 ⟨B1, B3, B5, HK, HJ, HK2, HJ2, HB⟩
 go_upto_region 5 with (first
  | (go_at_call 15; (with_reducible refine (shc3 _).mono ?_); rintro e w8 ⟨v8, rfl, ho, hb⟩; obtain ⟨A10, c10, rfl⟩ := R_len 0 rfl ho; clear ho; have n0_ := Aside0.mk (blk_below B1.out hb); have n1_ := Aside0.mk (blk_below B3.out hb); have n2_ := Aside0.mk (blk_below B5.out hb); have n3_ := Aside0.mk (Kd.R_below HK.out hb); have n4_ := Aside0.mk (Kd.R_below HJ.out hb); have n5_ := Aside0.mk (Kd.R_below HK2.out hb); have n6_ := Aside0.mk (Kd.R_below HJ2.out hb); have n7_ := Aside0.mk (below_step HB.out hb); clear B1 B3 B5 HK HJ HK2 HJ2 HB; have B1 := n0_; have B3 := n1_; have B5 := n2_; have HK := n3_; have HJ := n4_; have HK2 := n5_; have HJ2 := n6_; have HB := n7_; clear n0_ n1_ n2_ n3_ n4_ n5_ n6_ n7_ hb)
  | ((with_reducible refine gate_dst (N := 8) rfl ?_); refine box_event ?hg (N := 8) ?hd (cs := #[.int .i64 0, .int .i64 0, .int .i64 0, .int .i64 0, .int .i64 0, .int .i64 0, .int .i64 0]) (t := 35) ?hr ?_; (case hd => rfl); (case hg => rfl); (case hr => first | (go_simp; done) | (go_simp; rfl)); intro g8 hg w_g8 hbox hb; have Bg8 := Aside0.mk hbox; have GEg8 := Aside0.mk (show w.heap.size ≤ g8 by first | omega | (have h_ := below_size HB.out; omega)); have NE38 := Aside0.mk (show g3 ≠ g8 by have := blk_lt B3.out; omega); clear hbox hg; have n0_ := Aside0.mk (blk_below B1.out hb); have n1_ := Aside0.mk (blk_below B3.out hb); have n2_ := Aside0.mk (blk_below B5.out hb); have n3_ := Aside0.mk (Kd.R_below HK.out hb); have n4_ := Aside0.mk (Kd.R_below HJ.out hb); have n5_ := Aside0.mk (Kd.R_below HK2.out hb); have n6_ := Aside0.mk (Kd.R_below HJ2.out hb); have n7_ := Aside0.mk (below_step HB.out hb); clear B1 B3 B5 HK HJ HK2 HJ2 HB; have B1 := n0_; have B3 := n1_; have B5 := n2_; have HK := n3_; have HJ := n4_; have HK2 := n5_; have HJ2 := n6_; have HB := n7_; clear n0_ n1_ n2_ n3_ n4_ n5_ n6_ n7_ hb; obtain ⟨z0, z1, z2, z3, z4, z5, z6⟩ := Sq.c7 Bg8; have y0 := blk_frozen Bg8.out 0; have y1 := blk_frozen Bg8.out 1; have y2 := blk_frozen Bg8.out 2; have y3 := blk_frozen Bg8.out 3; have y4 := blk_frozen Bg8.out 4; have y5 := blk_frozen Bg8.out 5; have y6 := blk_frozen Bg8.out 6; have NE18 := Aside0.mk (blk_ne B1.out Bg8.out (by decide)); have NE58 := Aside0.mk (blk_ne B5.out Bg8.out (by decide))))
 refine forget_wp (fun wc => Aside0 (wc.heap[g1]? = some (.cells #[.slice A1 2 c1, .slice A2 2 c2, .slice none 0 0, .slice none 0 0, .slice none 0 0] 27 (0, 0))) ∧ Aside0 (wc.heap[g3]? = some (.cells #[.int .i64 1, .int .i64 0, .int .i64 0, .int .i64 0, .int .i64 2, .int .i64 2, .int .i64 5] 35 (0, 0))) ∧ Aside0 (wc.heap[g5]? = some (.cells #[.slice A5 2 c5, .slice A6 2 c6, .slice A7 0 c7, .slice A8 0 c8, .slice A9 0 c9] 27 (0, 0))) ∧ Aside0 (Kd.R k56 56 wc w.heap.size (fun _ => True) (.slice A1 2 c1) shK) ∧ Aside0 (Kd.R k54 54 wc w.heap.size (fun _ => True) (.slice A2 2 c2) shJ) ∧ Aside0 (Kd.R k56 56 wc w.heap.size (fun _ => True) (.slice A5 2 c5) shK) ∧ Aside0 (Kd.R k54 54 wc w.heap.size (fun _ => True) (.slice A6 2 c6) shJ) ∧ Aside0 (Below w.heap.size w wc)) ⟨⟨put7_far B1.out NE18.out⟩, ⟨put7_far B3.out NE38.out⟩, ⟨put7_far B5.out NE58.out⟩, ⟨put7_R HK.out Bg8.out (by decide)⟩, ⟨put7_R HJ.out Bg8.out (by decide)⟩, ⟨put7_R HK2.out Bg8.out (by decide)⟩, ⟨put7_R HJ2.out Bg8.out (by decide)⟩, ⟨put7_below HB.out GEg8.out⟩⟩ ?_
 clear B1 B3 B5 HK HJ HK2 HJ2 HB Bg8 z0 z1 z2 z3 z4 z5 z6 y0 y1 y2 y3 y4 y5 y6
 rintro w9 ⟨B1, B3, B5, HK, HJ, HK2, HJ2, HB⟩
 obtain ⟨s0, s1, s2, s3, s4, s5, s6⟩ := Sq.c7 B3
 go_upto_region 6 with (first
  | (go_at_call 21; (with_reducible refine (shc4 _).mono ?_); rintro e w10 ⟨v20, v21, v22, v23, v24, rfl, ho0, ho1, ho2, ho3, ho4, hb⟩; obtain ⟨A20, c20, rfl⟩ := R_len 0 rfl ho0; obtain ⟨A21, c21, rfl⟩ := R_len 0 rfl ho1; obtain ⟨A22, c22, rfl⟩ := R_len 0 rfl ho2; obtain ⟨A23, c23, rfl⟩ := R_len 0 rfl ho3; obtain ⟨A24, c24, rfl⟩ := R_len 0 rfl ho4; clear ho0 ho1 ho2 ho3 ho4; have n0_ := Aside0.mk (blk_below B1.out hb); have n1_ := Aside0.mk (blk_below B3.out hb); have n2_ := Aside0.mk (blk_below B5.out hb); have n3_ := Aside0.mk (Kd.R_below HK.out hb); have n4_ := Aside0.mk (Kd.R_below HJ.out hb); have n5_ := Aside0.mk (Kd.R_below HK2.out hb); have n6_ := Aside0.mk (Kd.R_below HJ2.out hb); have n7_ := Aside0.mk (below_step HB.out hb); clear B1 B3 B5 HK HJ HK2 HJ2 HB; have B1 := n0_; have B3 := n1_; have B5 := n2_; have HK := n3_; have HJ := n4_; have HK2 := n5_; have HJ2 := n6_; have HB := n7_; clear n0_ n1_ n2_ n3_ n4_ n5_ n6_ n7_ hb)
  | ((with_reducible refine gate_dst (N := 10) rfl ?_); refine box_event ?hg (N := 10) ?hd (cs := #[.slice none 0 0, .slice none 0 0, .slice none 0 0, .slice none 0 0, .slice none 0 0]) (t := 27) ?hr ?_; (case hd => rfl); (case hg => rfl); (case hr => first | (go_simp; done) | (go_simp; rfl)); intro g10 hg w_g10 hbox hb; have Bg10 := Aside0.mk hbox; have GEg10 := Aside0.mk (show w.heap.size ≤ g10 by first | omega | (have h_ := below_size HB.out; omega)); have NE1 := Aside0.mk (show g1 ≠ g10 by have := blk_lt B1.out; omega); have NE5 := Aside0.mk (show g5 ≠ g10 by have := blk_lt B5.out; omega); clear hbox hg; have n0_ := Aside0.mk (blk_below B1.out hb); have n1_ := Aside0.mk (blk_below B3.out hb); have n2_ := Aside0.mk (blk_below B5.out hb); have n3_ := Aside0.mk (Kd.R_below HK.out hb); have n4_ := Aside0.mk (Kd.R_below HJ.out hb); have n5_ := Aside0.mk (Kd.R_below HK2.out hb); have n6_ := Aside0.mk (Kd.R_below HJ2.out hb); have n7_ := Aside0.mk (below_step HB.out hb); clear B1 B3 B5 HK HJ HK2 HJ2 HB; have B1 := n0_; have B3 := n1_; have B5 := n2_; have HK := n3_; have HJ := n4_; have HK2 := n5_; have HJ2 := n6_; have HB := n7_; clear n0_ n1_ n2_ n3_ n4_ n5_ n6_ n7_ hb; obtain ⟨z0, z1, z2, z3, z4⟩ := Sq.c5 Bg10; have y0 := blk_frozen Bg10.out 0; have y1 := blk_frozen Bg10.out 1; have y2 := blk_frozen Bg10.out 2; have y3 := blk_frozen Bg10.out 3; have y4 := blk_frozen Bg10.out 4; have NE3 := Aside0.mk (blk_ne B3.out Bg10.out (by decide))))
 refine forget_wp (fun wc => Aside0 (wc.heap[g1]? = some (.cells #[.slice A1 2 c1, .slice A2 2 c2, .slice none 0 0, .slice none 0 0, .slice none 0 0] 27 (0, 0))) ∧ Aside0 (wc.heap[g3]? = some (.cells #[.int .i64 1, .int .i64 0, .int .i64 0, .int .i64 0, .int .i64 2, .int .i64 2, .int .i64 5] 35 (0, 0))) ∧ Aside0 (wc.heap[g5]? = some (.cells #[.slice A5 2 c5, .slice A6 2 c6, .slice A7 0 c7, .slice A8 0 c8, .slice A9 0 c9] 27 (0, 0))) ∧ Aside0 (Kd.R k56 56 wc w.heap.size (fun _ => True) (.slice A1 2 c1) shK) ∧ Aside0 (Kd.R k54 54 wc w.heap.size (fun _ => True) (.slice A2 2 c2) shJ) ∧ Aside0 (Kd.R k56 56 wc w.heap.size (fun _ => True) (.slice A5 2 c5) shK) ∧ Aside0 (Kd.R k54 54 wc w.heap.size (fun _ => True) (.slice A6 2 c6) shJ) ∧ Aside0 (Below w.heap.size w wc)) ⟨⟨put5_far B1.out NE1.out⟩, ⟨put5_far B3.out NE3.out⟩, ⟨put5_far B5.out NE5.out⟩, ⟨put5_R HK.out Bg10.out (by decide)⟩, ⟨put5_R HJ.out Bg10.out (by decide)⟩, ⟨put5_R HK2.out Bg10.out (by decide)⟩, ⟨put5_R HJ2.out Bg10.out (by decide)⟩, ⟨put5_below HB.out GEg10.out⟩⟩ ?_
 clear B1 B3 B5 HK HJ HK2 HJ2 HB Bg10 s0 s1 s2 s3 s4 s5 s6 z0 z1 z2 z3 z4 y0 y1 y2 y3 y4
 rintro w11 ⟨B1, B3, B5, HK, HJ, HK2, HJ2, HB⟩
 obtain ⟨a1, rfl⟩ := R_form2 HK.out (by decide)
 obtain ⟨a2, rfl⟩ := R_form2 HJ.out (by decide)
 obtain ⟨a5, rfl⟩ := R_form2 HK2.out (by decide)
 obtain ⟨a6, rfl⟩ := R_form2 HJ2.out (by decide)
 have hE := fun d w => eqK_self d w 3600 true ⟨#[66, 67]⟩
 have hE2 := fun d w => eqJ_self d w (-9) 1
 clear NE1 NE3 NE5 NE13 NE15 NE35 NE18 NE38 NE58 GEg1 GEg3 GEg5 GEg8 GEg10
 go_region_held (fun w' => w'.cell? ⟨g1, 0, none⟩ = some (.slice (some ⟨a1, 0, none⟩) 2 c1) ∧ w'.cell? ⟨g1, 1, none⟩ = some (.slice (some ⟨a2, 0, none⟩) 2 c2) ∧ w'.cell? ⟨g1, 2, none⟩ = some (.slice none 0 0) ∧ w'.cell? ⟨g1, 3, none⟩ = some (.slice none 0 0) ∧ w'.cell? ⟨g1, 4, none⟩ = some (.slice none 0 0) ∧ w'.cell? ⟨g3, 6, none⟩ = some (.int .i64 5) ∧ w'.cell? ⟨g5, 0, none⟩ = some (.slice (some ⟨a5, 0, none⟩) 2 c5) ∧ w'.cell? ⟨g5, 1, none⟩ = some (.slice (some ⟨a6, 0, none⟩) 2 c6) ∧ w'.cell? ⟨a1, 3, none⟩ = some (.int .i64 3600) ∧ w'.cell? ⟨a1, 4, none⟩ = some (.bool true) ∧ w'.cell? ⟨a1, 5, none⟩ = some (.string ⟨#[66, 67]⟩) ∧ w'.cell? ⟨a5, 3, none⟩ = some (.int .i64 3600) ∧ w'.cell? ⟨a5, 4, none⟩ = some (.bool true) ∧ w'.cell? ⟨a5, 5, none⟩ = some (.string ⟨#[66, 67]⟩) ∧ w'.cell? ⟨a2, 0, none⟩ = some (.int .i64 (-9)) ∧ w'.cell? ⟨a2, 1, none⟩ = some (.int .i64 1) ∧ w'.cell? ⟨a6, 0, none⟩ = some (.int .i64 (-9)) ∧ w'.cell? ⟨a6, 1, none⟩ = some (.int .i64 1) ∧ Aside0 (w'.heap[g1]? = some (.cells #[.slice (some ⟨a1, 0, none⟩) 2 c1, .slice (some ⟨a2, 0, none⟩) 2 c2, .slice none 0 0, .slice none 0 0, .slice none 0 0] 27 (0, 0))) ∧ Aside0 (w'.heap[g3]? = some (.cells #[.int .i64 1, .int .i64 0, .int .i64 0, .int .i64 0, .int .i64 2, .int .i64 2, .int .i64 5] 35 (0, 0))) ∧ Aside0 (w'.heap[g5]? = some (.cells #[.slice (some ⟨a5, 0, none⟩) 2 c5, .slice (some ⟨a6, 0, none⟩) 2 c6, .slice A7 0 c7, .slice A8 0 c8, .slice A9 0 c9] 27 (0, 0))) ∧ Aside0 (Kd.R k56 56 w' w.heap.size (fun _ => True) (.slice (some ⟨a1, 0, none⟩) 2 c1) shK) ∧ Aside0 (Kd.R k54 54 w' w.heap.size (fun _ => True) (.slice (some ⟨a2, 0, none⟩) 2 c2) shJ) ∧ Aside0 (Kd.R k56 56 w' w.heap.size (fun _ => True) (.slice (some ⟨a5, 0, none⟩) 2 c5) shK) ∧ Aside0 (Kd.R k54 54 w' w.heap.size (fun _ => True) (.slice (some ⟨a6, 0, none⟩) 2 c6) shJ) ∧ Aside0 (Below w.heap.size w w'))
  (first | assumption | exact sh_S ⟨blk_drew B1.out⟩ ⟨blk_drew B3.out⟩ ⟨blk_drew B5.out⟩ ⟨Kd.R_drew HK.out⟩ ⟨Kd.R_drew HJ.out⟩ ⟨Kd.R_drew HK2.out⟩ ⟨Kd.R_drew HJ2.out⟩ ⟨below_drew1 HB.out⟩ | exact sh_S (by assumption) (by assumption) (by assumption) (by assumption) (by assumption) (by assumption) (by assumption) (by assumption))
  ((go_at_call 16; (with_reducible refine (shc5 _ (Kd.R_drew HK.out) (Kd.R_drew HJ.out)).mono ?_); rintro e wn ⟨rfl, hb⟩; have n1_ := Aside0.mk (blk_below (blk_drew B1.out) hb); have n2_ := Aside0.mk (blk_below (blk_drew B3.out) hb); have n3_ := Aside0.mk (blk_below (blk_drew B5.out) hb); have n4_ := Aside0.mk (Kd.R_below (Kd.R_drew HK.out) hb); have n5_ := Aside0.mk (Kd.R_below (Kd.R_drew HJ.out) hb); have n6_ := Aside0.mk (Kd.R_below (Kd.R_drew HK2.out) hb); have n7_ := Aside0.mk (Kd.R_below (Kd.R_drew HJ2.out) hb); have n8_ := Aside0.mk (below_step (below_drew1 HB.out) hb)))
 all_goals
  go_wp2
  go_ret
  exact ⟨rfl, Aside0.out (by assumption)⟩
end Go.Proofs.Ythobnoknbdljgaa.Hand
namespace Go.Proofs.Ythobnoknbdljgaa.Stub2
open Go.RowKit Hand
def longcaselaw06_shown.f : Option Bool := some true
theorem longcaselaw06_shown.calls (r : Bool) (w : World) (h : longcaselaw06_shown.f = some r) :
  Calls Try.prog 11 #[] w fun e w' => e = .returned (.bool r) ∧ Below w.heap.size w w' := by
 obtain rfl := Option.some.inj h
 exact shown_walk w
end Go.Proofs.Ythobnoknbdljgaa.Stub2
end
section
namespace Go.Proofs.Ythobnoknbdljgaa.PM
open Go.Proofs.Ythobnoknbdljgaa.PB0 Sq
open Go.RowKit Go.Proofs.YthobnoknbdljgaaW.PrintWords Go.Proofs.YthobnoknbdljgaaW.PrintLast Go.Proofs.YthobnoknbdljgaaW.PrintMore
attribute [local go_sem] max2_int min2_int max_two min_two
set_option linter.unusedVariables false
set_option linter.unusedSimpArgs false
theorem eqA54 (d : Nat) (w : World) (x0 y0 : Int) (x1 y1 : Int) :
  (Op.equalIn (d + 2) 54 (.agg #[.int .i64 x0, .int .i64 x1]) (.agg #[.int .i64 y0, .int .i64 y1])).run Try.prog w = .ok (x0 == y0 && (x1 == y1)) w := by
 refine eqA_of Try.underlying54 (by kernel_rfl) ?_
 refine eqf_cons (by rfl) (by go_simp; rfl) (by go_simp; rfl) (by go_simp) ?_
 exact eqf_last (by rfl) (by go_simp; rfl) (by go_simp; rfl) (by go_simp)
end Go.Proofs.Ythobnoknbdljgaa.PM
end
section
namespace Go.Proofs.Ythobnoknbdljgaa.PM
open Go.Proofs.Ythobnoknbdljgaa.PB0 Sq
open Go.RowKit Go.Proofs.YthobnoknbdljgaaW.PrintWords Go.Proofs.YthobnoknbdljgaaW.PrintLast Go.Proofs.YthobnoknbdljgaaW.PrintMore
attribute [local go_sem] max2_int min2_int max_two min_two
set_option linter.unusedVariables false
set_option linter.unusedSimpArgs false
theorem eqA56 (d : Nat) (w : World) (x0 y0 : Int) (x1 y1 : Bool) (x2 y2 : ByteArray) :
  (Op.equalIn (d + 2) 56 (.agg #[.int .i64 x0, .bool x1, .string x2]) (.agg #[.int .i64 y0, .bool y1, .string y2])).run Try.prog w = .ok (x0 == y0 && (x1 == y1 && (x2.toList == y2.toList))) w := by
 refine eqA_of Try.underlying56 (by kernel_rfl) ?_
 refine eqf_cons (by rfl) (by go_simp; rfl) (by go_simp; rfl) (by go_simp) ?_
 refine eqf_cons (by rfl) (by go_simp; rfl) (by go_simp; rfl) (by go_simp) ?_
 exact eqf_last (by rfl) (by go_simp; rfl) (by go_simp; rfl) (by go_simp)
end Go.Proofs.Ythobnoknbdljgaa.PM
end
section
namespace Go.Proofs.Ythobnoknbdljgaa.PM
open Go.Proofs.Ythobnoknbdljgaa.PB0 Sq
open Go.RowKit Go.Proofs.YthobnoknbdljgaaW.PrintWords Go.Proofs.YthobnoknbdljgaaW.PrintLast Go.Proofs.YthobnoknbdljgaaW.PrintMore
attribute [local go_sem] max2_int min2_int max_two min_two
set_option linter.unusedVariables false
set_option linter.unusedSimpArgs false
theorem eqA67 (d : Nat) (w : World) (x0 y0 : Int) (x1 y1 : Int) :
  (Op.equalIn (d + 2) 67 (.agg #[.int .i64 x0, .int .i64 x1]) (.agg #[.int .i64 y0, .int .i64 y1])).run Try.prog w = .ok (x0 == y0 && (x1 == y1)) w := by
 refine eqA_of Try.underlying67 (by kernel_rfl) ?_
 refine eqf_cons (by rfl) (by go_simp; rfl) (by go_simp; rfl) (by go_simp) ?_
 exact eqf_last (by rfl) (by go_simp; rfl) (by go_simp; rfl) (by go_simp)
end Go.Proofs.Ythobnoknbdljgaa.PM
end
section
namespace Go.Proofs.Ythobnoknbdljgaa.PM
open Go.Proofs.Ythobnoknbdljgaa.PB0 Sq
open Go.RowKit Go.Proofs.YthobnoknbdljgaaW.PrintWords Go.Proofs.YthobnoknbdljgaaW.PrintLast Go.Proofs.YthobnoknbdljgaaW.PrintMore
attribute [local go_sem] max2_int min2_int max_two min_two
set_option linter.unusedVariables false
set_option linter.unusedSimpArgs false
def longcaseref06_bools.l0 : Nat → List Bool → List Bool → Int → Option (Bool)
 | 0, _, _, _ => none
 | k + 1, x0, x1, x5 => if x5 < (x0.length : Int) then (if 0 ≤ x5 then (if x5 < (x1.length : Int) then (if ((rdOf false x0 x5) != (rdOf false x1 x5)) = true then (some false) else (longcaseref06_bools.l0 k x0 x1 (wrap64 (x5 + 1)))) else (none)) else (none)) else (some true)
def longcaseref06_bools.f (k : Nat) (l0 : List Bool) (l1 : List Bool) : Option (Bool) := if (l0.length : Int) = (l1.length : Int) then (longcaseref06_bools.l0 k l0 l1 0) else (some false)
set_option maxHeartbeats 8000000 in
set_option maxRecDepth 100000 in
theorem longcaseref06_bools.calls (k : Nat) (A0 : Option Addr) (c0 : Nat) (l0 : List Bool) (A1 : Option Addr) (c1 : Nat) (l1 : List Bool) (r : Bool) (w : World) (hr0 : Kd.C Kd.bool w A0 l0.length l0) (hc0 : l0.length ≤ c0) (hr1 : Kd.C Kd.bool w A1 l1.length l1) (hc1 : l1.length ≤ c1) (h : longcaseref06_bools.f k l0 l1 = some r) :
  Calls Try.prog 33 #[.slice A0 l0.length c0, .slice A1 l1.length c1] w fun e w' => e = .returned (.bool r) ∧ Drawn0 w w' := by
 have HR0 := Aside0.mk hr0
 have HC0 := Aside0.mk hc0
 clear hr0 hc0
 have HR1 := Aside0.mk hr1
 have HC1 := Aside0.mk hc1
 clear hr1 hc1
 have H : (if (l0.length : Int) = (l1.length : Int) then (longcaseref06_bools.l0 k l0 l1 0) else (some false)) = some r := h
 clear h
 by_cases c3 : (l0.length : Int) = (l1.length : Int)
 rotate_left
 ·
  rw [if_neg c3] at H
  have c3b0 : ((l0.length : Int) == (l1.length : Int)) = false := beq_eq_false_iff_ne.mpr c3
  have c3b1 : ((l0.length : Int) != (l1.length : Int)) = true := bne_iff_ne.mpr c3
  have c3b2 : (l0.length == l1.length) = false := by first | simpa using c3 | (simp at c3 ⊢; omega)
  obtain rfl := Option.some.inj H
  go_enter Try.func33, Try.ntmps33
  go_wp2
  repeat (go_quiet (fail); try go_wp2)
  go_ret
  exact ⟨by first | rfl | (simp; done) | (simp [*]; done), by repeat (first | exact Drawn0.refl _ | apply Drawn0.step)⟩
 rw [if_pos c3] at H
 have c3b0 : ((l0.length : Int) == (l1.length : Int)) = true := beq_iff_eq.mpr c3
 have c3b1 : ((l0.length : Int) != (l1.length : Int)) = false := bne_eq_false_iff_eq.mpr c3
 have c3b2 : (l0.length == l1.length) = true := by first | simpa using c3 | (simp at c3 ⊢; omega)
 clear c3
 have H' := Aside0.mk H
 clear H
 go_enter Try.func33, Try.ntmps33
 go_wp2
 repeat (go_quiet (fail); try go_wp2)
 go_loopg [5] k (fun kq v5 w' => ∃ (x5_1 : Int), v5 = .int .i64 x5_1 ∧ Aside0 (longcaseref06_bools.l0 kq l0 l1 x5_1 = some r) ∧ Aside0 (kq ≤ k) ∧ Drawn0 w w')
 case atStart => exact ⟨(0), (by first | rfl | (simp; done) | (simp [*]; done)), H', ⟨Nat.le_refl _⟩, by repeat (first | exact Drawn0.refl _ | apply Drawn0.step)⟩
 clear H'
 try clear c1
 try clear p2
 try clear c3
 try clear c3b0
 try clear c3b1
 try clear c3b2
 obtain ⟨x5_1, rfl, HA, HK1, ⟨m1, rfl⟩⟩ := hrel
 cases gk with
 | zero => exact absurd HA.out (by simp [longcaseref06_bools.l0])
 | succ k1 =>
  have H := HA.out
  clear HA
  simp only [longcaseref06_bools.l0] at H
  by_cases c4 : x5_1 < (l0.length : Int)
  rotate_left
  ·
   rw [if_neg c4] at H
   have c4b0 : decide (x5_1 < (l0.length : Int)) = false := decide_eq_false c4
   clear c4
   obtain rfl := Option.some.inj H
   go_wp2
   repeat (go_quiet (fail); try go_wp2)
   go_ret
   exact ⟨by first | rfl | (simp; done) | (simp [*]; done), by repeat (first | exact Drawn0.refl _ | apply Drawn0.step)⟩
  rw [if_pos c4] at H
  have c4b0 : decide (x5_1 < (l0.length : Int)) = true := decide_eq_true c4
  clear c4
  by_cases c5 : 0 ≤ x5_1
  rotate_left
  ·
   rw [if_neg c5] at H
   exact absurd H (by simp)
  rw [if_pos c5] at H
  have c5b0 : decide (0 ≤ x5_1) = true := decide_eq_true c5
  clear c5
  by_cases c6 : x5_1 < (l1.length : Int)
  rotate_left
  ·
   rw [if_neg c6] at H
   exact absurd H (by simp)
  rw [if_pos c6] at H
  have c6b0 : decide (x5_1 < (l1.length : Int)) = true := decide_eq_true c6
  clear c6
  by_cases c7 : ((rdOf false l0 x5_1) != (rdOf false l1 x5_1)) = true
  ·
   rw [if_pos c7] at H
   have c7b0 : ((rdOf false l0 x5_1) != (rdOf false l1 x5_1)) = true := c7
   (try (have c7b1 : decide ((rdOf false l0 x5_1) = (rdOf false l1 x5_1)) = false := by simpa using c7))
   (try (have c7b2 : ((rdOf false l0 x5_1) == (rdOf false l1 x5_1)) = false := by simpa using c7))
   (try (have c7b3 : ¬ ((rdOf false l0 x5_1) = (rdOf false l1 x5_1)) := by simpa using c7))
   clear c7
   obtain rfl := Option.some.inj H
   have p101 : 0 ≤ (x5_1 : Int) := of_decide_eq_true (by first | (with_reducible assumption) | assumption)
   have q101 : x5_1 < (l0.length : Int) := of_decide_eq_true (by first | (with_reducible assumption) | assumption)
   obtain ⟨ad101, e101, hx101_0⟩ := Kd.at_bool HR0.out x5_1 p101 q101
   cases e101
   replace p101 := eq_true p101
   replace q101 := eq_true q101
   have p102 : 0 ≤ (x5_1 : Int) := of_decide_eq_true (by first | (with_reducible assumption) | assumption)
   have q102 : x5_1 < (l1.length : Int) := of_decide_eq_true (by first | (with_reducible assumption) | assumption)
   obtain ⟨ad102, e102, hx102_0⟩ := Kd.at_bool HR1.out x5_1 p102 q102
   cases e102
   replace p102 := eq_true p102
   replace q102 := eq_true q102
   go_wp2
   repeat (go_quiet (fail); try go_wp2)
   go_ret
   exact ⟨by first | rfl | (simp; done) | (simp [*]; done), by repeat (first | exact Drawn0.refl _ | apply Drawn0.step)⟩
  rw [if_neg c7] at H
  have c7b0 : ((rdOf false l0 x5_1) != (rdOf false l1 x5_1)) = false := by simpa using c7
  (try (have c7b1 : decide ((rdOf false l0 x5_1) = (rdOf false l1 x5_1)) = true := by simpa using c7))
  (try (have c7b2 : ((rdOf false l0 x5_1) == (rdOf false l1 x5_1)) = true := by simpa using c7))
  clear c7
  have H' := Aside0.mk H
  clear H
  have p101 : 0 ≤ (x5_1 : Int) := of_decide_eq_true (by first | (with_reducible assumption) | assumption)
  have q101 : x5_1 < (l0.length : Int) := of_decide_eq_true (by first | (with_reducible assumption) | assumption)
  obtain ⟨ad101, e101, hx101_0⟩ := Kd.at_bool HR0.out x5_1 p101 q101
  cases e101
  replace p101 := eq_true p101
  replace q101 := eq_true q101
  have p102 : 0 ≤ (x5_1 : Int) := of_decide_eq_true (by first | (with_reducible assumption) | assumption)
  have q102 : x5_1 < (l1.length : Int) := of_decide_eq_true (by first | (with_reducible assumption) | assumption)
  obtain ⟨ad102, e102, hx102_0⟩ := Kd.at_bool HR1.out x5_1 p102 q102
  cases e102
  replace p102 := eq_true p102
  replace q102 := eq_true q102
  go_wp2
  repeat (go_quiet (fail); try go_wp2)
  go_roundg k1
  case measure => have := HK1.out; omega
  case rel => exact ⟨(wrap64 (x5_1 + 1)), (by first | rfl | (simp; done) | (simp [*]; done)), H', ⟨by have := HK1.out; omega⟩, by repeat (first | exact Drawn0.refl _ | apply Drawn0.step)⟩
end Go.Proofs.Ythobnoknbdljgaa.PM
end
