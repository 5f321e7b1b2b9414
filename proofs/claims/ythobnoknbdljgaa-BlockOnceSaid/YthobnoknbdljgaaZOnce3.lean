/- What the claim needs of its texts, one behind the other (laid by a program of the session's). -/
import Derived.Test.YthobnoknbdljgaaZOnce2
import Derived.Test.YthobnoknbdljgaaProg
import Derived.Below
import Derived.Deep.Draws
import Derived.Deep.AppendLies
import Derived.Maps.AppendAt
import Derived.OwnWalk
import Derived.Laws.BytesArg
import Derived.Laws.MakeOwn
import Derived.Laws.OwnMore
import Derived.Deep.OwnRows
import Derived.Tactics
import Derived.Lib.ConvBytes
import Derived.Laws.Slices
import Derived.WalkKit
import Derived.KernelRfl
import Derived.RowKit3
import Derived.Deep.LoopGhost
import Derived.Deep.QuietTactic
import Derived.BigQuiet
import Derived.WideLaws
import Derived.Deep.DeepCutAuto
import Derived.Deep.CutBlock
import Derived.Deep.RegionHeld3
import Derived.Laws.Rows
import Derived.Lib.AppendStr
import Derived.ArgAppend
import Derived.Laws.IdiomCopy
import Derived.OrdersHeld
import Derived.Laws.BitsLemmas
import Derived.RowKit
section
namespace Go.Proofs.Ythobnoknbdljgaa.Hand
open Go.RowKit Go.Proofs.YthobnoknbdljgaaW.PrintWords Go.Proofs.YthobnoknbdljgaaW.PrintLast Go.Proofs.YthobnoknbdljgaaW.PrintMore PB0
set_option linter.unusedVariables false
set_option linter.unusedSimpArgs false
theorem slice0 (W : World) (g n cap : Nat) : (Instr.slice 33 (.slice (some ⟨g, 0, none⟩) n cap) none (some (.int .i64 0)) none).run Try.prog W = .ok (.slice (some ⟨g, 0, none⟩) 0 cap) W := by
 obtain ⟨i0, hi, hz0, hz1, hz2⟩ := info_parts info_u8
 have hel : Try.prog.elem 33 = 5 := by simp [Program.elem, Try.underlying33]
 have hu : Try.prog.underlying 33 = some (.slice (Try.prog.elem 33)) := by rw [hel]; exact Try.underlying33
 rw [run_slice_h W 33 _ n cap hu .i64 0 (by omega) (by omega), hel]
 simp [sizeOf, typeInfo, hi, hz1, sliced, Result.andThen, Addr.add]
set_option maxHeartbeats 4000000 in
set_option maxRecDepth 100000 in
theorem slices_Grow_nil.calls (n : Nat) (hn : n ≤ 100000000000) (w : World) :
  Calls Try.prog 50 #[.slice none 0 0, .int .i64 (n : Int)] w fun e w' => ∃ v, e = .returned v ∧ Kd.R (Kd.int .u8) 5 w' w.heap.size (fun _ => True) v [] ∧ Below w.heap.size w w' := by
 have c0 : decide ((n : Int) < 0) = false := decide_eq_false (by omega)
 by_cases hz : n = 0
 ·
  subst hz
  go_enter Try.func50, Try.ntmps50
  go_wp2
  go_ret
  exact ⟨_, rfl, Kd.R_nil _ _ _ _ _, Below.refl _ _⟩
 ·
  have c1 : decide (0 < (n : Int)) = true := decide_eq_true (by omega)
  have c1n : decide (0 < n) = true := decide_eq_true (by omega)
  go_enter Try.func50, Try.ntmps50
  go_wp2_with (first | (at_builtin; refine Kd.R_append_zeros (Kd.int .u8) (w0 := w) w.heap.size rfl _ _ 33 3 5 (.int .u8 0) 1 rfl Try.underlying33 Try.underlying3 info_u8 rfl (by decide) (by omega) (.slice none 0 0) [] 0 (n : Int) (fun _ => True) rfl rfl rfl (fun _ _ => trivial) (Kd.R_nil _ _ _ _ _) (by omega) (Below.refl _ _) (Nat.le_refl _) (by simp; omega) ?_; intro v1 w1 ho hb hg hat))
  rw [List.nil_append, Int.toNat_natCast] at ho
  obtain ⟨g, cap, rfl, _, _, _⟩ := Kd.R_form ho (by rw [List.length_replicate]; omega)
  rw [List.length_replicate] at ho ⊢
  rw [slice0 w1 g n cap]
  simp only [Result.andThen]
  rw [Oper.upon_value]
  go_wp2
  go_ret
  exact ⟨_, rfl, Kd.R_take (m := 0) ho (Nat.zero_le _), hb⟩
def rd_L7 (xs : List (List Int)) (i : Int) : (List Int) := xs.getD i.toNat ([] : List Int)
theorem at_L7 {w : World} {A : Option Addr} {n : Nat} {xs : List (List Int)} (h : Kd.C (Kd.slice 5 (Kd.int .u8)) w A n xs) (i : Int) (h0 : 0 ≤ i) (h1 : i < n) : ∃ ad A0 c0, A = some ad ∧ w.cell? (ad.add i.toNat) = some (.slice A0 (rd_L7 xs i).length c0) ∧ (rd_L7 xs i).length ≤ c0 ∧ (Kd.int .u8).C w A0 (rd_L7 xs i).length (rd_L7 xs i) := by
 obtain ⟨ad, c, e, _, hK, hc0⟩ := Kd.C_get h ([] : List Int) i h0 h1
 have hc : ∀ j u, c[j]? = some u → w.cell? (ad.add (i.toNat * 1 + j)) = some u := hc0
 obtain ⟨A0, c0, rfl, l0, g0⟩ := hK
 exact ⟨ad, A0, c0, e, by have hq := hc 0 _ rfl; rwa [Nat.mul_one, Nat.add_zero] at hq, l0, g0⟩
def slices_Concat_byte_byte.f (l0 : List (List Int)) : Option (List Int) := if l0.length ≤ 10 ∧ (l0.map List.length).sum ≤ 10000000 then some l0.flatten else none
theorem rdL (l : List (List Int)) (k : Nat) (h : k < l.length) : l.take (k + 1) = l.take k ++ [rd_L7 l (k : Int)] := by
 unfold rd_L7
 rw [List.take_add_one, Int.toNat_natCast, List.getD_eq_getElem?_getD, List.getElem?_eq_getElem h]
 rfl
theorem sum_take (l : List (List Int)) (k : Nat) : ((l.take k).map List.length).sum ≤ (l.map List.length).sum := by
 have h : (l.map List.length).sum = ((l.take k).map List.length).sum + ((l.drop k).map List.length).sum := by
  rw [← List.sum_append, ← List.map_append, List.take_append_drop]
 omega
theorem flat_len (l : List (List Int)) : l.flatten.length = (l.map List.length).sum := by
 rw [List.length_flatten]
set_option maxHeartbeats 4000000 in
set_option maxRecDepth 100000 in
theorem slices_Concat_byte_byte.calls (A0 : Option Addr) (c0 : Nat) (l0 : List (List Int)) (r : List Int) (w : World) (hr0 : Kd.C (Kd.slice 5 (Kd.int .u8)) w A0 l0.length l0) (hc0 : l0.length ≤ c0) (h : slices_Concat_byte_byte.f l0 = some r) :
  Calls Try.prog 28 #[.slice A0 l0.length c0] w fun e w' => ∃ v0_ : Value, e = .returned v0_ ∧ Kd.R (Kd.int .u8) 5 w' w.heap.size (fun _ => True) v0_ r ∧ Below w.heap.size w w' := by
 obtain ⟨hn, hsum, rfl⟩ : l0.length ≤ 10 ∧ (l0.map List.length).sum ≤ 10000000 ∧ l0.flatten = r := by
  unfold slices_Concat_byte_byte.f at h
  split at h
  ·
   rename_i hh
   exact ⟨hh.1, hh.2, Option.some.inj h⟩
  ·
   cases h
 have HR0 := Aside0.mk hr0
 clear h hr0
 go_enter Try.func28, Try.ntmps28
 go_wp2
 go_loopw [3, 11] (fun z i wr => ∃ k : Nat, k ≤ l0.length ∧ i = .int .i64 k ∧ z = .int .i64 (((l0.take k).map List.length).sum : Nat) ∧ wr = w) (fun _ i _ => l0.length - (intOf i).toNat)
 case atStart => exact ⟨0, Nat.zero_le _, rfl, rfl, rfl⟩
 case round =>
  obtain ⟨k, hk, rfl, rfl, hw⟩ := hrel
  have hw2 := hw.symm
  clear hw
  subst hw2
  by_cases hlt : k < l0.length
  ·
   have cl : decide ((k : Int) < (l0.length : Int)) = true := decide_eq_true (by omega)
   obtain ⟨ad, B0, d0, eA, hx0, hd0, hC⟩ := at_L7 HR0.out (k : Int) (by omega) (by omega)
   subst eA
   rw [Int.toNat_natCast] at hx0
   have hs := sum_take l0 (k + 1)
   rw [rdL l0 k hlt, List.map_append, List.sum_append] at hs
   have hs2 : ((([rd_L7 l0 (k : Int)] : List (List Int)).map List.length).sum : Nat) = (rd_L7 l0 (k : Int)).length := by simp
   rw [hs2] at hs
   have HS := Aside0.mk (show (((l0.take (k + 1)).map List.length).sum : Nat) = ((l0.take k).map List.length).sum + (rd_L7 l0 (k : Int)).length by rw [rdL l0 k hlt, List.map_append, List.sum_append, hs2])
   obtain ⟨sm, hsm⟩ : ∃ q, q = ((l0.take k).map List.length).sum := ⟨_, rfl⟩
   rw [← hsm] at hs HS ⊢
   obtain ⟨le, hle⟩ : ∃ q, q = (rd_L7 l0 (k : Int)).length := ⟨_, rfl⟩
   rw [← hle] at hs HS hx0
   clear hs2 hsm hle hC
   have cn : decide (((sm : Nat) : Int) + ((le : Nat) : Int) < 0) = false := decide_eq_false (by omega)
   have cw : wrap64 (((sm : Nat) : Int) + ((le : Nat) : Int)) = ((sm + le : Nat) : Int) := by rw [w64 (by omega) (by omega)]; omega
   go_wp2
   go_roundw
   case rel => exact ⟨k + 1, by omega, by go_num, by rw [HS.out]; first | rfl | (rw [cw]) | (congr 1; omega), by first | rfl | trivial⟩
   case measure => simp [intOf]; omega
  ·
   have hkl : k = l0.length := by omega
   subst hkl
   have cl : decide ((l0.length : Int) < (l0.length : Int)) = false := decide_eq_false (by omega)
   have htk : l0.take l0.length = l0 := List.take_of_length_le (Nat.le_refl _)
   rw [htk]
   obtain ⟨sm, hsm⟩ : ∃ q, q = (l0.map List.length).sum := ⟨_, rfl⟩
   rw [← hsm] at hsum ⊢
   have HSM := Aside0.mk hsm
   clear htk hsm hlt hk
   have HG := Aside0.mk (slices_Grow_nil.calls sm (by omega) w)
   go_upto_region 10 with (go_at_call 50; refine (HG.out).mono ?_; rintro e w2 ⟨v2, rfl, ho, hb⟩)
   have HO := Aside0.mk ho
   have HB := Aside0.mk hb
   clear ho hb
   go_wp2
   go_loopw [6, 27] (fun v i wQ => ∃ k : Nat, k ≤ l0.length ∧ i = .int .i64 k ∧ Kd.R (Kd.int .u8) 5 wQ w.heap.size (fun _ => True) v (l0.take k).flatten ∧ Below w.heap.size w wQ) (fun _ i _ => l0.length - (intOf i).toNat)
   case atStart => exact ⟨0, Nat.zero_le _, rfl, HO.out, HB.out⟩
   case round =>
    clear HO HB HG
    obtain ⟨k, hk, rfl, hR, hBl⟩ := hrel
    have HO := Aside0.mk hR
    have HB := Aside0.mk hBl
    clear hR hBl
    by_cases hlt : k < l0.length
    ·
     have ck : decide ((k : Int) < (l0.length : Int)) = true := decide_eq_true (by omega)
     obtain ⟨ad, B0, d0, eA, hx0, hd0, hC⟩ := at_L7 HR0.out (k : Int) (by omega) (by omega)
     subst eA
     rw [Int.toNat_natCast] at hx0
     have hf := rdL l0 k hlt
     have HFL := Aside0.mk (show (l0.take (k + 1)).flatten = (l0.take k).flatten ++ rd_L7 l0 (k : Int) by rw [hf]; simp)
     have hs := sum_take l0 (k + 1)
     rw [hf, List.map_append, List.sum_append] at hs
     have hs2 : ((([rd_L7 l0 (k : Int)] : List (List Int)).map List.length).sum : Nat) = (rd_L7 l0 (k : Int)).length := by simp
     rw [hs2, ← HSM.out, ← flat_len] at hs
     obtain ⟨xs, hxs⟩ : ∃ q, q = (l0.take k).flatten := ⟨_, rfl⟩
     obtain ⟨ys, hys⟩ : ∃ q, q = rd_L7 l0 (k : Int) := ⟨_, rfl⟩
     rw [← hxs, ← hys] at hs HFL
     rw [← hxs] at HO
     rw [← hys] at hx0 hd0 hC
     replace hx0 := (HB.out.cell (World.block_lt_of_cell? w _ hx0)).trans hx0
     have HC := Aside0.mk (Kd.C_below hC HB.out)
     clear hf hs2 hxs hys hC
     go_wp2_with (first | ((with_reducible refine gate_builtin (b := .append) (xs := #[.tmp 31, .tmp 32]) rfl ?_); at_builtin; refine Kd.R_append_rows (Kd.int .u8) (w0 := w) w.heap.size rfl (.tmp 31) (.tmp 32) 33 5 (.int .u8 0) 1 rfl Try.underlying33 info_u8 rfl (by decide) (by omega) _ xs ys _ _ _ (fun _ => True) (fun _ => False) rfl rfl HO.out HC.out (fun _ _ h => h) (fun _ h => h.elim) (fun _ _ => trivial) HB.out HB.out.size (by omega) ?_; intro v4 w4 ho hb hg hat; clear HO HB; have HO := Aside0.mk ho; have HB := Aside0.mk hb; clear ho hb hg hat))
     go_roundw
     case rel => exact ⟨k + 1, by omega, by go_num, by rw [HFL.out]; exact HO.out, HB.out⟩
     case measure => simp [intOf]; omega
    ·
     have hkl : k = l0.length := by omega
     subst hkl
     have ck : decide ((l0.length : Int) < (l0.length : Int)) = false := decide_eq_false (by omega)
     have htk : l0.take l0.length = l0 := List.take_of_length_le (Nat.le_refl _)
     rw [htk] at HO
     clear htk hlt hk
     go_wp2
     go_ret
     exact ⟨_, rfl, HO.out, HB.out⟩
end Go.Proofs.Ythobnoknbdljgaa.Hand
end
section
namespace Go.Proofs.Ythobnoknbdljgaa
open Go.RowKit Hand PB0 Go.Proofs.YthobnoknbdljgaaW.PrintWords
def u64w (n : Int) : Int := IntKind.u64.wrap n
def b1 (b : Bool) : Int := if b = true then 1 else 0
def jA (m : Nat) (j : S54) : List Int := be m (u64w j.f0)
def jB (j : S54) : List Int := [j.f1 % 256]
def kA (x : S56 × Int) : List Int := be 4 (u64w x.1.f0) ++ [b1 x.1.f1] ++ [x.2]
def lA (m : Nat) (l : S67) : List Int := be m (u64w l.f0) ++ be 4 (u64w l.f1)
def tr (l : List Bool) : List Int := l.map b1
def encL (m : Nat) (l0 : List S56) (l1 : List S54) (l2 : List S67) (l3 l4 : List Bool) : List Int :=
 l1.flatMap (jA m) ++ l1.flatMap jB ++ (l0.zip (nmSt (names l0)).2.2).flatMap kA ++ bytesOf ⟨(nmSt (names l0)).1.toArray⟩ ++ l2.flatMap (lA m) ++ tr l3 ++ tr l4
theorem flat_len {α : Type} (f : α → List Int) (c : Nat) (h : ∀ x, (f x).length ≤ c) (l : List α) : (l.flatMap f).length ≤ c * l.length := by
 induction l with
 | nil => exact Nat.zero_le _
 | cons x l ih =>
  rw [List.flatMap_cons, List.length_append, List.length_cons, Nat.mul_succ]
  have := h x
  omega
theorem jA_len (m : Nat) (j : S54) : (jA m j).length = m := be_len _ _
theorem lA_len (m : Nat) (j : S67) : (lA m j).length = m + 4 := by unfold lA; rw [List.length_append, be_len, be_len]
theorem kA_len (x : S56 × Int) : (kA x).length = 6 := by unfold kA; rw [List.length_append, List.length_append, be_len]; rfl
theorem rd54 (l : List S54) (k : Nat) (h : k < l.length) : rd_T54 l (k : Int) = l[k] := by
 unfold rd_T54
 rw [Int.toNat_natCast, List.getD_eq_getElem?_getD, List.getElem?_eq_getElem h]
 rfl
theorem rd56 (l : List S56) (k : Nat) (h : k < l.length) : rd_T56 l (k : Int) = l[k] := by
 unfold rd_T56
 rw [Int.toNat_natCast, List.getD_eq_getElem?_getD, List.getElem?_eq_getElem h]
 rfl
theorem rd67 (l : List S67) (k : Nat) (h : k < l.length) : rd_T67 l (k : Int) = l[k] := by
 unfold rd_T67
 rw [Int.toNat_natCast, List.getD_eq_getElem?_getD, List.getElem?_eq_getElem h]
 rfl
end Go.Proofs.Ythobnoknbdljgaa
namespace Go.Proofs.Ythobnoknbdljgaa.Hand
open Go.RowKit PB0 Go.Proofs.YthobnoknbdljgaaW.PrintWords
theorem truths_l (l : List Bool) (hl : l.length ≤ 1000000) (d : Nat) : ∀ (k i : Nat), i + d = l.length → d < k → PB0.block_truths.l0 k ((l.take i).map b1 ++ List.replicate d 0) l (l.length : Int) i = some (tr l) := by
 induction d with
 | zero =>
  intro k i hi hk
  obtain ⟨k, rfl⟩ : ∃ m, k = m + 1 := ⟨k - 1, by omega⟩
  rw [PB0.block_truths.l0, if_neg (by omega), List.take_of_length_le (by omega)]
  simp [tr]
 | succ d ih =>
  intro k i hi hk
  obtain ⟨k, rfl⟩ : ∃ m, k = m + 1 := ⟨k - 1, by omega⟩
  have hlt : i < l.length := by omega
  have e : rdOf false l (i : Int) = l[i] := by
   unfold rdOf
   rw [Int.toNat_natCast, List.getD_eq_getElem?_getD, List.getElem?_eq_getElem hlt]
   rfl
  have ht : (l.take (i + 1)).map b1 = (l.take i).map b1 ++ [b1 l[i]] := by
   rw [List.take_add_one, List.getElem?_eq_getElem hlt, List.map_append]
   rfl
  have hm : ((l.take i).map b1).length = i := by rw [List.length_map, List.length_take]; omega
  have ih2 := ih k (i + 1) (by omega) (by omega)
  rw [PB0.block_truths.l0, if_pos (by omega), if_pos (by omega), if_pos (by omega), e, w64 (n := (i : Int) + 1) (by omega) (by omega)]
  rw [ht] at ih2
  cases hb : l[i]
  ·
   rw [if_neg (by decide)]
   rw [hb] at ih2
   rw [List.replicate_succ]
   have : (l.take i).map b1 ++ 0 :: List.replicate d 0 = (l.take i).map b1 ++ [b1 false] ++ List.replicate d 0 := by simp [b1]
   rw [this]
   exact ih2
  ·
   rw [if_pos rfl, if_pos (by rw [List.length_append, List.length_replicate, hm]; omega)]
   rw [hb] at ih2
   have : ((l.take i).map b1 ++ List.replicate (d + 1) 0).set (i : Int).toNat 1 = (l.take i).map b1 ++ [b1 true] ++ List.replicate d 0 := by
    rw [Int.toNat_natCast, List.set_append, if_neg (by omega), hm, Nat.sub_self, List.replicate_succ]
    simp [b1]
   rw [this]
   exact ih2
theorem truths_f (l : List Bool) (hl : l.length ≤ 1000000) : PB0.block_truths.f (l.length + 1) l = some (tr l) := by
 unfold PB0.block_truths.f
 rw [if_pos (by omega), if_pos (by omega), Int.toNat_natCast]
 exact truths_l l hl l.length _ 0 (by omega) (by omega)
theorem truths_c (A0 : Option Addr) (c0 : Nat) (l0 : List Bool) (hl : l0.length ≤ 1000000) (w : World) (hr0 : Kd.C Kd.bool w A0 l0.length l0) (hc0 : l0.length ≤ c0) :
  Calls Try.prog 29 #[.slice A0 l0.length c0] w fun e w' => ∃ v, e = .returned v ∧ Kd.R (Kd.int .u8) 5 w' w.heap.size (fun _ => True) v (tr l0) ∧ Below w.heap.size w w' :=
 PB0.block_truths.calls _ A0 c0 l0 (tr l0) w hr0 hc0 (truths_f l0 hl)
end Go.Proofs.Ythobnoknbdljgaa.Hand
end
section
namespace Go.Proofs.Ythobnoknbdljgaa.Hand
open Go.RowKit PB0
def encOK (l0 : List S56) (l1 : List S54) (l2 : List S67) (l3 l4 : List Bool) : Prop := l0.length ≤ 1000000 ∧ nmSum (names l0) ≤ 1000000 ∧ l1.length ≤ 1000000 ∧ l2.length ≤ 1000000 ∧ l3.length ≤ 1000000 ∧ l4.length ≤ 1000000
instance (l0 : List S56) (l1 : List S54) (l2 : List S67) (l3 l4 : List Bool) : Decidable (encOK l0 l1 l2 l3 l4) := by unfold encOK; infer_instance
end Go.Proofs.Ythobnoknbdljgaa.Hand
namespace Go.Proofs.Ythobnoknbdljgaa.Stub
open Go.RowKit Go.Proofs.YthobnoknbdljgaaW.PrintWords PB0 Hand
def octets_Put.f (l0 : List Int) (a1 a2 : Int) : Option (List Int) := if l0.length < 1000000000 ∧ 0 ≤ a1 ∧ a1 ≤ 8 then some (l0 ++ be a1.toNat a2) else none
theorem octets_Put.calls (A0 : Option Addr) (c0 : Nat) (l0 : List Int) (a1 a2 : Int) (r : List Int) (w : World) (hr0 : Kd.C (Kd.int .u8) w A0 l0.length l0) (hc0 : l0.length ≤ c0) (h : octets_Put.f l0 a1 a2 = some r) :
  Calls Try.prog 26 #[.slice A0 l0.length c0, .int .i64 a1, .int .u64 a2] w fun e w' => ∃ v, e = .returned v ∧ Kd.R (Kd.int .u8) 5 w' w.heap.size (fun _ => True) v r ∧ Below w.heap.size w w' := by
 unfold octets_Put.f at h
 split at h
 ·
  rename_i hh
  obtain rfl := Option.some.inj h
  have e : a1 = ((a1.toNat : Nat) : Int) := by omega
  have hq := PO.octets_Put.calls 10 A0 c0 l0 ((a1.toNat : Nat) : Int) a2 (l0 ++ be a1.toNat a2) w hr0 hc0 (Oct.put_f 10 (Nat.le_refl _) l0 (by omega) a1.toNat (by omega) a2)
  rwa [← e] at hq
 ·
  cases h
def block_truths.f (l0 : List Bool) : Option (List Int) := if l0.length ≤ 1000000 then some (tr l0) else none
theorem block_truths.calls (A0 : Option Addr) (c0 : Nat) (l0 : List Bool) (r : List Int) (w : World) (hr0 : Kd.C Kd.bool w A0 l0.length l0) (hc0 : l0.length ≤ c0) (h : block_truths.f l0 = some r) :
  Calls Try.prog 29 #[.slice A0 l0.length c0] w fun e w' => ∃ v, e = .returned v ∧ Kd.R (Kd.int .u8) 5 w' w.heap.size (fun _ => True) v r ∧ Below w.heap.size w w' := by
 unfold block_truths.f at h
 split at h
 ·
  rename_i hh
  obtain rfl := Option.some.inj h
  exact truths_c A0 c0 l0 hh w hr0 hc0
 ·
  cases h
def block_Right.f (l0 : List S56) (l1 : List S54) (l2 : List S67) (l3 l4 : List Bool) (a1 a2 : Int) : Option Bool := if encOK l0 l1 l2 l3 l4 then some (rightB a1 a2 l0 l1 l2 l3 l4) else none
theorem block_Right.calls (A0_0 : Option Addr) (c0_0 : Nat) (l0_0 : List S56) (A0_1 : Option Addr) (c0_1 : Nat) (l0_1 : List S54) (A0_2 : Option Addr) (c0_2 : Nat) (l0_2 : List S67) (A0_3 : Option Addr) (c0_3 : Nat) (l0_3 : List Bool) (A0_4 : Option Addr) (c0_4 : Nat) (l0_4 : List Bool) (a1 a2 : Int) (r : Bool) (w : World) (hr0_0 : Kd.C k56 w A0_0 l0_0.length l0_0) (hc0_0 : l0_0.length ≤ c0_0) (hr0_1 : Kd.C k54 w A0_1 l0_1.length l0_1) (hc0_1 : l0_1.length ≤ c0_1) (hr0_2 : Kd.C k67 w A0_2 l0_2.length l0_2) (hc0_2 : l0_2.length ≤ c0_2) (hr0_3 : Kd.C Kd.bool w A0_3 l0_3.length l0_3) (hc0_3 : l0_3.length ≤ c0_3) (hr0_4 : Kd.C Kd.bool w A0_4 l0_4.length l0_4) (hc0_4 : l0_4.length ≤ c0_4) (h : block_Right.f l0_0 l0_1 l0_2 l0_3 l0_4 a1 a2 = some r) :
  Calls Try.prog 16 #[.agg #[.slice A0_0 l0_0.length c0_0, .slice A0_1 l0_1.length c0_1, .slice A0_2 l0_2.length c0_2, .slice A0_3 l0_3.length c0_3, .slice A0_4 l0_4.length c0_4], .int .i64 a1, .int .i64 a2] w fun e w' => e = .returned (.bool r) ∧ Below w.heap.size w w' := by
 unfold block_Right.f at h
 split at h
 ·
  rename_i hh
  obtain ⟨q0, q1, q2, q3, q4, q5⟩ := hh
  exact PK.block_Right.calls _ A0_0 c0_0 l0_0 A0_1 c0_1 l0_1 A0_2 c0_2 l0_2 A0_3 c0_3 l0_3 A0_4 c0_4 l0_4 a1 a2 r w hr0_0 hc0_0 hr0_1 hc0_1 hr0_2 hc0_2 hr0_3 hc0_3 hr0_4 hc0_4 ((right_f _ a1 a2 l0_0 l0_1 l0_2 l0_3 l0_4 (Nat.le_refl _) q0 q1 q2 q3).trans h)
 ·
  cases h
end Go.Proofs.Ythobnoknbdljgaa.Stub
end
section
namespace Go.Proofs.Ythobnoknbdljgaa.PE
open Go.Proofs.Ythobnoknbdljgaa.PB0
open Go.RowKit Go.Proofs.Ythobnoknbdljgaa.Stub Go.Proofs.Ythobnoknbdljgaa.Hand Go.Proofs.YthobnoknbdljgaaW.PrintWords Go.Proofs.YthobnoknbdljgaaW.PrintLast Go.Proofs.YthobnoknbdljgaaW.PrintMore
attribute [local go_sem] max2_int min2_int max_two min_two max_three min_three max_four min_four
set_option linter.unusedVariables false
set_option linter.unusedSimpArgs false
theorem info4 : (Try.prog.info? 4).map (fun i => (i.zero, i.size, i.bytes)) = some (some (.bool false), 1, 1) := by kernel_rfl
def rd_L7 (xs : List (List Int)) (i : Int) : (List Int) := xs.getD i.toNat ([] : List Int)
theorem at_L7 {w : World} {A : Option Addr} {n : Nat} {xs : List (List Int)} (h : Kd.C (Kd.slice 5 (Kd.int .u8)) w A n xs) (i : Int) (h0 : 0 ≤ i) (h1 : i < n) : ∃ ad A0 c0, A = some ad ∧ w.cell? (ad.add i.toNat) = some (.slice A0 (rd_L7 xs i).length c0) ∧ (rd_L7 xs i).length ≤ c0 ∧ (Kd.int .u8).C w A0 (rd_L7 xs i).length (rd_L7 xs i) := by
 obtain ⟨ad, c, e, _, hK, hc0⟩ := Kd.C_get h ([] : List Int) i h0 h1
 have hc : ∀ j u, c[j]? = some u → w.cell? (ad.add (i.toNat * 1 + j)) = some u := hc0
 obtain ⟨A0, c0, rfl, l0, g0⟩ := hK
 exact ⟨ad, A0, c0, e, by have hq := hc 0 _ rfl; rwa [Nat.mul_one, Nat.add_zero] at hq, l0, g0⟩
end Go.Proofs.Ythobnoknbdljgaa.PE
end
section
namespace Go.Proofs.Ythobnoknbdljgaa.PE
open Go.Proofs.Ythobnoknbdljgaa.PB0
open Go.RowKit Go.Proofs.Ythobnoknbdljgaa.Stub Go.Proofs.Ythobnoknbdljgaa.Hand Go.Proofs.YthobnoknbdljgaaW.PrintWords Go.Proofs.YthobnoknbdljgaaW.PrintLast Go.Proofs.YthobnoknbdljgaaW.PrintMore
attribute [local go_sem] max2_int min2_int max_two min_two max_three min_three max_four min_four
set_option linter.unusedVariables false
set_option linter.unusedSimpArgs false
mutual
def block_Encode.j0 : Nat → Int → Int → Bool → List (S56) → List (S54) → List (S67) → List Bool → List Bool → Option (List Int × Int × Int × Int × Int × Int × Int × Int × Int)
 | 0, _, _, _, _, _, _, _, _ => none
 | k + 1, x1, x2, x33, x102000, x102001, x102002, x102003, x102004 => if x33 = true then (some (([] : List Int), 0, 0, 0, 0, 0, 0, 0, 1)) else (block_Encode.l0 k x1 x2 ([] : List Int) x102001 (x102001.length : Int) 0 x102000 x102001 x102002 x102003 x102004)
def block_Encode.l0 : Nat → Int → Int → List Int → List (S54) → Int → Int → List (S56) → List (S54) → List (S67) → List Bool → List Bool → Option (List Int × Int × Int × Int × Int × Int × Int × Int × Int)
 | 0, _, _, _, _, _, _, _, _, _, _, _ => none
 | k + 1, x1, x2, x9, x36, x37, x38, x102000, x102001, x102002, x102003, x102004 => if x38 < x37 then (if 0 ≤ x38 then (if x38 < (x36.length : Int) then ((octets_Put.f ([] : List Int) x1 (IntKind.u64.wrap ((rd_T54 x36 x38).f0))).bind fun t106 => (if x9.length + t106.length < 140737488355328 then (block_Encode.l0 k x1 x2 (x9 ++ t106) x36 x37 (wrap64 (x38 + 1)) x102000 x102001 x102002 x102003 x102004) else (none))) else (none)) else (none)) else (block_Encode.l1 k x1 x2 x9 x102001 (x102001.length : Int) 0 x102000 x102001 x102002 x102003 x102004)
def block_Encode.l1 : Nat → Int → Int → List Int → List (S54) → Int → Int → List (S56) → List (S54) → List (S67) → List Bool → List Bool → Option (List Int × Int × Int × Int × Int × Int × Int × Int × Int)
 | 0, _, _, _, _, _, _, _, _, _, _, _ => none
 | k + 1, x1, x2, x9, x51, x52, x53, x102000, x102001, x102002, x102003, x102004 => if x53 < x52 then (if 0 ≤ x53 then (if x53 < (x51.length : Int) then (if x9.length < 140737488355328 then (block_Encode.l1 k x1 x2 (x9 ++ [((rd_T54 x51 x53).f1) % 256]) x51 x52 (wrap64 (x53 + 1)) x102000 x102001 x102002 x102003 x102004) else (none)) else (none)) else (none)) else ((block_names.f x102000).bind fun bt117 => (block_Encode.l2 k x1 x2 x9 bt117.1 bt117.2 x102000 (x102000.length : Int) 0 x102000 x102001 x102002 x102003 x102004))
def block_Encode.l2 : Nat → Int → Int → List Int → ByteArray → List Int → List (S56) → Int → Int → List (S56) → List (S54) → List (S67) → List Bool → List Bool → Option (List Int × Int × Int × Int × Int × Int × Int × Int × Int)
 | 0, _, _, _, _, _, _, _, _, _, _, _, _, _ => none
 | k + 1, x1, x2, x9, x14, x15, x71, x72, x73, x102000, x102001, x102002, x102003, x102004 => if x73 < x72 then (if 0 ≤ x73 then (if x73 < (x71.length : Int) then ((octets_Put.f ([] : List Int) 4 (IntKind.u64.wrap ((rd_T56 x71 x73).f0))).bind fun t123 => ((block_truths.f (([(rd_T56 x71 x73).f1] : List Bool))).bind fun t129 => (if x73 ≤ (wrap64 (x73 + 1)) then (if (wrap64 (x73 + 1)) ≤ (x15.length : Int) then ((slices_Concat_byte_byte.f (([x9, t123, t129, ((x15.take ((wrap64 (x73 + 1)) : Int).toNat).drop (x73 : Int).toNat)] : List (List Int)))).bind fun t140 => (block_Encode.l2 k x1 x2 t140 x14 x15 x71 x72 (wrap64 (x73 + 1)) x102000 x102001 x102002 x102003 x102004)) else (none)) else (none)))) else (none)) else (none)) else (if x9.length + x14.size < 140737488355328 then (block_Encode.l3 k x1 x2 (x9 ++ bytesOf x14) x14 x102002 (x102002.length : Int) 0 x102000 x102001 x102002 x102003 x102004) else (none))
def block_Encode.l3 : Nat → Int → Int → List Int → ByteArray → List (S67) → Int → Int → List (S56) → List (S54) → List (S67) → List Bool → List Bool → Option (List Int × Int × Int × Int × Int × Int × Int × Int × Int)
 | 0, _, _, _, _, _, _, _, _, _, _, _, _ => none
 | k + 1, x1, x2, x9, x14, x99, x100, x101, x102000, x102001, x102002, x102003, x102004 => if x101 < x100 then (if 0 ≤ x101 then (if x101 < (x99.length : Int) then ((octets_Put.f ([] : List Int) x1 (IntKind.u64.wrap ((rd_T67 x99 x101).f0))).bind fun t148 => ((octets_Put.f t148 4 (IntKind.u64.wrap ((rd_T67 x99 x101).f1))).bind fun t151 => (if x9.length + t151.length < 140737488355328 then (block_Encode.l3 k x1 x2 (x9 ++ t151) x14 x99 x100 (wrap64 (x101 + 1)) x102000 x102001 x102002 x102003 x102004) else (none)))) else (none)) else (none)) else ((block_truths.f x102003).bind fun t158 => ((block_truths.f x102004).bind fun t161 => ((slices_Concat_byte_byte.f (([x9, t158, t161] : List (List Int)))).bind fun t167 => (some (t167, x2, (x102004.length : Int), (x102003.length : Int), (x102002.length : Int), (x102001.length : Int), (x102000.length : Int), (x14.size : Int), 0)))))
end
def block_Encode.f (k : Nat) (l0_0 : List (S56)) (l0_1 : List (S54)) (l0_2 : List (S67)) (l0_3 : List Bool) (l0_4 : List Bool) (a1 : Int) (a2 : Int) : Option (List Int × Int × Int × Int × Int × Int × Int × Int × Int) := if a2 < 1 then (block_Encode.j0 k a1 a2 true l0_0 l0_1 l0_2 l0_3 l0_4) else (if a2 > 4 then (block_Encode.j0 k a1 a2 true l0_0 l0_1 l0_2 l0_3 l0_4) else ((block_Right.f l0_0 l0_1 l0_2 l0_3 l0_4 a1 a2).bind fun t103 => (block_Encode.j0 k a1 a2 (!t103) l0_0 l0_1 l0_2 l0_3 l0_4)))
theorem block_Encode.mono_l : ∀ k, (∀ y0 y1 y2 y3 y4 y5 y6 y7, LeO (block_Encode.j0 k y0 y1 y2 y3 y4 y5 y6 y7) (block_Encode.j0 (k + 1) y0 y1 y2 y3 y4 y5 y6 y7)) ∧ (∀ y0 y1 y2 y3 y4 y5 y6 y7 y8 y9 y10, LeO (block_Encode.l0 k y0 y1 y2 y3 y4 y5 y6 y7 y8 y9 y10) (block_Encode.l0 (k + 1) y0 y1 y2 y3 y4 y5 y6 y7 y8 y9 y10)) ∧ (∀ y0 y1 y2 y3 y4 y5 y6 y7 y8 y9 y10, LeO (block_Encode.l1 k y0 y1 y2 y3 y4 y5 y6 y7 y8 y9 y10) (block_Encode.l1 (k + 1) y0 y1 y2 y3 y4 y5 y6 y7 y8 y9 y10)) ∧ (∀ y0 y1 y2 y3 y4 y5 y6 y7 y8 y9 y10 y11 y12, LeO (block_Encode.l2 k y0 y1 y2 y3 y4 y5 y6 y7 y8 y9 y10 y11 y12) (block_Encode.l2 (k + 1) y0 y1 y2 y3 y4 y5 y6 y7 y8 y9 y10 y11 y12)) ∧ (∀ y0 y1 y2 y3 y4 y5 y6 y7 y8 y9 y10 y11, LeO (block_Encode.l3 k y0 y1 y2 y3 y4 y5 y6 y7 y8 y9 y10 y11) (block_Encode.l3 (k + 1) y0 y1 y2 y3 y4 y5 y6 y7 y8 y9 y10 y11))
 | 0 => ⟨fun _ _ _ _ _ _ _ _ r h => by simp [block_Encode.j0] at h, fun _ _ _ _ _ _ _ _ _ _ _ r h => by simp [block_Encode.l0] at h, fun _ _ _ _ _ _ _ _ _ _ _ r h => by simp [block_Encode.l1] at h, fun _ _ _ _ _ _ _ _ _ _ _ _ _ r h => by simp [block_Encode.l2] at h, fun _ _ _ _ _ _ _ _ _ _ _ _ r h => by simp [block_Encode.l3] at h⟩
 | k + 1 => by
  obtain ⟨ih0, ih1, ih2, ih3, ih4⟩ := block_Encode.mono_l k
  refine ⟨?_, ?_, ?_, ?_, ?_⟩
  ·
   intro y0 y1 y2 y3 y4 y5 y6 y7
   unfold block_Encode.j0
   repeat' first
   | (with_reducible exact ih0 _ _ _ _ _ _ _ _)
   | (with_reducible exact ih1 _ _ _ _ _ _ _ _ _ _ _)
   | (with_reducible exact ih2 _ _ _ _ _ _ _ _ _ _ _)
   | (with_reducible exact ih3 _ _ _ _ _ _ _ _ _ _ _ _ _)
   | (with_reducible exact ih4 _ _ _ _ _ _ _ _ _ _ _ _)
   | (with_reducible exact LeO.refl _)
   | (with_reducible exact LeO.none _)
   | (with_reducible refine LeO.ite ?_ ?_)
   | (with_reducible refine LeO.bind ?_ (fun _ => ?_))
   | exact ih0 _ _ _ _ _ _ _ _
   | exact ih1 _ _ _ _ _ _ _ _ _ _ _
   | exact ih2 _ _ _ _ _ _ _ _ _ _ _
   | exact ih3 _ _ _ _ _ _ _ _ _ _ _ _ _
   | exact ih4 _ _ _ _ _ _ _ _ _ _ _ _
   | exact LeO.none _
   | refine LeO.ite ?_ ?_
   | refine LeO.bind ?_ (fun _ => ?_)
  ·
   intro y0 y1 y2 y3 y4 y5 y6 y7 y8 y9 y10
   unfold block_Encode.l0
   repeat' first
   | (with_reducible exact ih0 _ _ _ _ _ _ _ _)
   | (with_reducible exact ih1 _ _ _ _ _ _ _ _ _ _ _)
   | (with_reducible exact ih2 _ _ _ _ _ _ _ _ _ _ _)
   | (with_reducible exact ih3 _ _ _ _ _ _ _ _ _ _ _ _ _)
   | (with_reducible exact ih4 _ _ _ _ _ _ _ _ _ _ _ _)
   | (with_reducible exact LeO.refl _)
   | (with_reducible exact LeO.none _)
   | (with_reducible refine LeO.ite ?_ ?_)
   | (with_reducible refine LeO.bind ?_ (fun _ => ?_))
   | exact ih0 _ _ _ _ _ _ _ _
   | exact ih1 _ _ _ _ _ _ _ _ _ _ _
   | exact ih2 _ _ _ _ _ _ _ _ _ _ _
   | exact ih3 _ _ _ _ _ _ _ _ _ _ _ _ _
   | exact ih4 _ _ _ _ _ _ _ _ _ _ _ _
   | exact LeO.none _
   | refine LeO.ite ?_ ?_
   | refine LeO.bind ?_ (fun _ => ?_)
  ·
   intro y0 y1 y2 y3 y4 y5 y6 y7 y8 y9 y10
   unfold block_Encode.l1
   repeat' first
   | (with_reducible exact ih0 _ _ _ _ _ _ _ _)
   | (with_reducible exact ih1 _ _ _ _ _ _ _ _ _ _ _)
   | (with_reducible exact ih2 _ _ _ _ _ _ _ _ _ _ _)
   | (with_reducible exact ih3 _ _ _ _ _ _ _ _ _ _ _ _ _)
   | (with_reducible exact ih4 _ _ _ _ _ _ _ _ _ _ _ _)
   | (with_reducible exact LeO.refl _)
   | (with_reducible exact LeO.none _)
   | (with_reducible refine LeO.ite ?_ ?_)
   | (with_reducible refine LeO.bind ?_ (fun _ => ?_))
   | exact ih0 _ _ _ _ _ _ _ _
   | exact ih1 _ _ _ _ _ _ _ _ _ _ _
   | exact ih2 _ _ _ _ _ _ _ _ _ _ _
   | exact ih3 _ _ _ _ _ _ _ _ _ _ _ _ _
   | exact ih4 _ _ _ _ _ _ _ _ _ _ _ _
   | exact LeO.none _
   | refine LeO.ite ?_ ?_
   | refine LeO.bind ?_ (fun _ => ?_)
  ·
   intro y0 y1 y2 y3 y4 y5 y6 y7 y8 y9 y10 y11 y12
   unfold block_Encode.l2
   repeat' first
   | (with_reducible exact ih0 _ _ _ _ _ _ _ _)
   | (with_reducible exact ih1 _ _ _ _ _ _ _ _ _ _ _)
   | (with_reducible exact ih2 _ _ _ _ _ _ _ _ _ _ _)
   | (with_reducible exact ih3 _ _ _ _ _ _ _ _ _ _ _ _ _)
   | (with_reducible exact ih4 _ _ _ _ _ _ _ _ _ _ _ _)
   | (with_reducible exact LeO.refl _)
   | (with_reducible exact LeO.none _)
   | (with_reducible refine LeO.ite ?_ ?_)
   | (with_reducible refine LeO.bind ?_ (fun _ => ?_))
   | exact ih0 _ _ _ _ _ _ _ _
   | exact ih1 _ _ _ _ _ _ _ _ _ _ _
   | exact ih2 _ _ _ _ _ _ _ _ _ _ _
   | exact ih3 _ _ _ _ _ _ _ _ _ _ _ _ _
   | exact ih4 _ _ _ _ _ _ _ _ _ _ _ _
   | exact LeO.none _
   | refine LeO.ite ?_ ?_
   | refine LeO.bind ?_ (fun _ => ?_)
  ·
   intro y0 y1 y2 y3 y4 y5 y6 y7 y8 y9 y10 y11
   unfold block_Encode.l3
   repeat' first
   | (with_reducible exact ih0 _ _ _ _ _ _ _ _)
   | (with_reducible exact ih1 _ _ _ _ _ _ _ _ _ _ _)
   | (with_reducible exact ih2 _ _ _ _ _ _ _ _ _ _ _)
   | (with_reducible exact ih3 _ _ _ _ _ _ _ _ _ _ _ _ _)
   | (with_reducible exact ih4 _ _ _ _ _ _ _ _ _ _ _ _)
   | (with_reducible exact LeO.refl _)
   | (with_reducible exact LeO.none _)
   | (with_reducible refine LeO.ite ?_ ?_)
   | (with_reducible refine LeO.bind ?_ (fun _ => ?_))
   | exact ih0 _ _ _ _ _ _ _ _
   | exact ih1 _ _ _ _ _ _ _ _ _ _ _
   | exact ih2 _ _ _ _ _ _ _ _ _ _ _
   | exact ih3 _ _ _ _ _ _ _ _ _ _ _ _ _
   | exact ih4 _ _ _ _ _ _ _ _ _ _ _ _
   | exact LeO.none _
   | refine LeO.ite ?_ ?_
   | refine LeO.bind ?_ (fun _ => ?_)
theorem block_Encode.mono : ∀ a0 a1 a2 a3 a4 a5 a6 k, LeO (block_Encode.f k a0 a1 a2 a3 a4 a5 a6) (block_Encode.f (k + 1) a0 a1 a2 a3 a4 a5 a6) := by
 intro a0 a1 a2 a3 a4 a5 a6 k
 obtain ⟨ih0, ih1, ih2, ih3, ih4⟩ := block_Encode.mono_l k
 unfold block_Encode.f
 repeat' first
   | (with_reducible exact ih0 _ _ _ _ _ _ _ _)
   | (with_reducible exact ih1 _ _ _ _ _ _ _ _ _ _ _)
   | (with_reducible exact ih2 _ _ _ _ _ _ _ _ _ _ _)
   | (with_reducible exact ih3 _ _ _ _ _ _ _ _ _ _ _ _ _)
   | (with_reducible exact ih4 _ _ _ _ _ _ _ _ _ _ _ _)
   | (with_reducible exact LeO.refl _)
   | (with_reducible exact LeO.none _)
   | (with_reducible refine LeO.ite ?_ ?_)
   | (with_reducible refine LeO.bind ?_ (fun _ => ?_))
   | exact ih0 _ _ _ _ _ _ _ _
   | exact ih1 _ _ _ _ _ _ _ _ _ _ _
   | exact ih2 _ _ _ _ _ _ _ _ _ _ _
   | exact ih3 _ _ _ _ _ _ _ _ _ _ _ _ _
   | exact ih4 _ _ _ _ _ _ _ _ _ _ _ _
   | exact LeO.none _
   | refine LeO.ite ?_ ?_
   | refine LeO.bind ?_ (fun _ => ?_)
def block_Encode.T18 : Bool × List (List Nat × List Nat) := (true, [([], []), ([], []), ([1], [1]), ([2], [2]), ([3], [3]), ([], []), ([5], [5]), ([6], [6]), ([7, 4], [7]), ([], []), ([], []), ([], []), ([11], [11]), ([9, 10, 12], [9, 10, 12]), ([0, 4, 8, 13], [0, 4, 8, 13]), ([14, 8], [14]), ([15, 15, 0, 1, 2, 3, 4, 5, 6, 7, 8, 9, 10, 11, 12, 13, 14, 15], [0, 15])])
def block_Encode.B18 : List Nat := [0, 0, 2, 6, 14, 0, 32, 96, 254, 0, 0, 0, 2048, 7680, 16383, 32767, 65535]
theorem block_Encode.tab18 : rtab .any (opsOf Try.f15 18) = block_Encode.T18 := by kernel_rfl
theorem block_Encode.bits18 : waitsOk block_Encode.T18.2 block_Encode.B18 = true := by kernel_rfl
def block_Encode.T24 : Bool × List (List Nat × List Nat) := (true, [([], []), ([], []), ([], []), ([2], [2]), ([3], [3]), ([1, 4], [1, 4]), ([], []), ([6], [6]), ([7], [7]), ([5, 8, 5], [5, 8]), ([0, 9, 9], [0, 9]), ([10, 10, 0, 1, 2, 3, 4, 5, 6, 7, 8, 9, 10], [0, 10])])
def block_Encode.B24 : List Nat := [0, 0, 0, 4, 12, 30, 0, 64, 192, 510, 1023, 2047]
theorem block_Encode.tab24 : rtab .any (opsOf Try.f15 24) = block_Encode.T24 := by kernel_rfl
theorem block_Encode.bits24 : waitsOk block_Encode.T24.2 block_Encode.B24 = true := by kernel_rfl
def block_Encode.T27 : Bool × List (List Nat × List Nat) := (true, [([], []), ([], []), ([1], [1]), ([2], [2]), ([], []), ([4], [4]), ([5, 3], [5]), ([0, 3, 6], [0, 3, 6]), ([7, 6], [7]), ([], []), ([8, 8, 0, 1, 2, 3, 4, 5, 6, 7, 8], [8]), ([9, 10, 0, 1, 2, 3, 4, 5, 6, 7, 8, 9, 10], [9]), ([11, 0, 1, 2, 3, 4, 5, 6, 7, 8, 9, 10, 11], [])])
def block_Encode.B27 : List Nat := [0, 0, 2, 6, 0, 16, 62, 127, 255, 0, 511, 2047, 4095]
theorem block_Encode.tab27 : rtab .any (opsOf Try.f15 27) = block_Encode.T27 := by kernel_rfl
theorem block_Encode.bits27 : waitsOk block_Encode.T27.2 block_Encode.B27 = true := by kernel_rfl
set_option maxHeartbeats 8000000 in
set_option maxRecDepth 100000 in
theorem block_Encode.calls (k : Nat) (A0_0 : Option Addr) (c0_0 : Nat) (l0_0 : List (S56)) (A0_1 : Option Addr) (c0_1 : Nat) (l0_1 : List (S54)) (A0_2 : Option Addr) (c0_2 : Nat) (l0_2 : List (S67)) (A0_3 : Option Addr) (c0_3 : Nat) (l0_3 : List Bool) (A0_4 : Option Addr) (c0_4 : Nat) (l0_4 : List Bool) (a1 : Int) (a2 : Int) (r1 : List Int) (r2 : Int) (r3 : Int) (r4 : Int) (r5 : Int) (r6 : Int) (r7 : Int) (r8 : Int) (r9 : Int) (w : World) (hr0_0 : Kd.C k56 w A0_0 l0_0.length l0_0) (hc0_0 : l0_0.length ≤ c0_0) (hr0_1 : Kd.C k54 w A0_1 l0_1.length l0_1) (hc0_1 : l0_1.length ≤ c0_1) (hr0_2 : Kd.C k67 w A0_2 l0_2.length l0_2) (hc0_2 : l0_2.length ≤ c0_2) (hr0_3 : Kd.C Kd.bool w A0_3 l0_3.length l0_3) (hc0_3 : l0_3.length ≤ c0_3) (hr0_4 : Kd.C Kd.bool w A0_4 l0_4.length l0_4) (hc0_4 : l0_4.length ≤ c0_4) (h : block_Encode.f k l0_0 l0_1 l0_2 l0_3 l0_4 a1 a2 = some (r1, r2, r3, r4, r5, r6, r7, r8, r9)) :
  Calls Try.prog 15 #[.agg #[.slice A0_0 l0_0.length c0_0, .slice A0_1 l0_1.length c0_1, .slice A0_2 l0_2.length c0_2, .slice A0_3 l0_3.length c0_3, .slice A0_4 l0_4.length c0_4], .int .i64 a1, .int .i64 a2] w fun e w' => ∃ v0_ : Value, e = .returned (.tuple #[v0_, .agg #[.int .i64 r2, .int .i64 r3, .int .i64 r4, .int .i64 r5, .int .i64 r6, .int .i64 r7, .int .i64 r8], .int .i64 r9]) ∧ Kd.R (Kd.int .u8) 5 w' w.heap.size (fun _ => True) v0_ r1 ∧ Below w.heap.size w w' := by
 have hu27 := Try.underlying27
 have hu35 := Try.underlying35
 have hu54 := Try.underlying54
 have hu56 := Try.underlying56
 have hu67 := Try.underlying67
 have HR0_0 := Aside0.mk hr0_0
 have HC0_0 := Aside0.mk hc0_0
 clear hr0_0 hc0_0
 have HR0_1 := Aside0.mk hr0_1
 have HC0_1 := Aside0.mk hc0_1
 clear hr0_1 hc0_1
 have HR0_2 := Aside0.mk hr0_2
 have HC0_2 := Aside0.mk hc0_2
 clear hr0_2 hc0_2
 have HR0_3 := Aside0.mk hr0_3
 have HC0_3 := Aside0.mk hc0_3
 clear hr0_3 hc0_3
 have HR0_4 := Aside0.mk hr0_4
 have HC0_4 := Aside0.mk hc0_4
 clear hr0_4 hc0_4
 have HB := Aside0.mk (Below.refl w.heap.size w)
 have H : (if a2 < 1 then (block_Encode.j0 k a1 a2 true l0_0 l0_1 l0_2 l0_3 l0_4) else (if a2 > 4 then (block_Encode.j0 k a1 a2 true l0_0 l0_1 l0_2 l0_3 l0_4) else ((block_Right.f l0_0 l0_1 l0_2 l0_3 l0_4 a1 a2).bind fun t103 => (block_Encode.j0 k a1 a2 (!t103) l0_0 l0_1 l0_2 l0_3 l0_4)))) = some (r1, r2, r3, r4, r5, r6, r7, r8, r9) := h
 clear h
 have HC4 := Aside0.mk H
 clear H
 go_enter Try.func15, Try.ntmps15
 go_upto_region 1 with (first | ((with_reducible refine gate_dst (N := 3) rfl ?_); refine box_event ?hg (N := 3) ?hd (cs := #[.slice A0_0 l0_0.length c0_0, .slice A0_1 l0_1.length c0_1, .slice A0_2 l0_2.length c0_2, .slice A0_3 l0_3.length c0_3, .slice A0_4 l0_4.length c0_4]) (t := 27) ?hr ?_; (case hd => rfl); (case hg => rfl); (case hr => first | (go_simp; done) | (go_simp; rfl)); intro gb101 hg w5 hbox hb; have n0_ := Aside0.mk (below_step (by repeat (first | (with_reducible first | exact HB.out | apply below_alloc | apply pw_below_drewN | apply below_drew1) | exact HB.out)) hb); have n1_ := Aside0.mk (hbox); have n2_ := Aside0.mk ((by rw [hg]; exact (below_size (by repeat (first | (with_reducible first | exact HB.out | apply below_alloc | apply pw_below_drewN | apply below_drew1) | exact HB.out))) : w.heap.size ≤ gb101)); have n3_ := Aside0.mk ((by rw [hg]; exact (below_size (by repeat (first | (with_reducible first | exact HB.out | apply below_alloc | apply pw_below_drewN | apply below_drew1) | exact HB.out))) : w.heap.size ≤ gb101)); clear HB; have HB := n0_; have BK101 := n1_; have GW101 := n2_; have GE101 := n3_; clear n0_ n1_ n2_ n3_; clear hb hbox hg) | ((with_reducible refine gate_dst (N := 7) rfl ?_); refine box_event ?hg (N := 7) ?hd (cs := #[.int .i64 0, .int .i64 0, .int .i64 0, .int .i64 0, .int .i64 0, .int .i64 0, .int .i64 0]) (t := 35) ?hr ?_; (case hd => rfl); (case hg => rfl); (case hr => first | (go_simp; done) | (go_simp; rfl)); intro gb102 hg w6 hbox hb; have n0_ := Aside0.mk (blk_below (g := gb101) (o := .cells #[.slice A0_0 l0_0.length c0_0, .slice A0_1 l0_1.length c0_1, .slice A0_2 l0_2.length c0_2, .slice A0_3 l0_3.length c0_3, .slice A0_4 l0_4.length c0_4] 27 (0, 0)) (by (with_reducible repeat (first | refine blk_drewN ?_ _ | refine blk_drew ?_ | refine blk_alloc ?_ _)); exact BK101.out) hb); have n1_ := Aside0.mk (below_step (by repeat (first | (with_reducible first | exact HB.out | apply below_alloc | apply pw_below_drewN | apply below_drew1 | refine below_set ?_ GE101.out) | exact HB.out)) hb); have n2_ := Aside0.mk (hbox); have n3_ := Aside0.mk ((by rw [hg]; exact (below_size (by repeat (first | (with_reducible first | exact HB.out | apply below_alloc | apply pw_below_drewN | apply below_drew1 | refine below_set ?_ GE101.out) | exact HB.out))) : w.heap.size ≤ gb102)); have n4_ := Aside0.mk ((by rw [hg]; exact (below_size (by repeat (first | (with_reducible first | exact HB.out | apply below_alloc | apply pw_below_drewN | apply below_drew1 | refine below_set ?_ GE101.out) | exact HB.out))) : w.heap.size ≤ gb102)); have n5_ := Aside0.mk ((by rw [hg]; exact Nat.ne_of_lt (blk_lt (g := gb101) (o := .cells #[.slice A0_0 l0_0.length c0_0, .slice A0_1 l0_1.length c0_1, .slice A0_2 l0_2.length c0_2, .slice A0_3 l0_3.length c0_3, .slice A0_4 l0_4.length c0_4] 27 (0, 0)) (by (with_reducible repeat (first | refine blk_drewN ?_ _ | refine blk_drew ?_ | refine blk_alloc ?_ _)); exact BK101.out)) : gb101 ≠ gb102)); have n6_ := Aside0.mk ((by rw [hg]; exact Nat.ne_of_gt (blk_lt (g := gb101) (o := .cells #[.slice A0_0 l0_0.length c0_0, .slice A0_1 l0_1.length c0_1, .slice A0_2 l0_2.length c0_2, .slice A0_3 l0_3.length c0_3, .slice A0_4 l0_4.length c0_4] 27 (0, 0)) (by (with_reducible repeat (first | refine blk_drewN ?_ _ | refine blk_drew ?_ | refine blk_alloc ?_ _)); exact BK101.out)) : gb102 ≠ gb101)); clear BK101; clear HB; have BK101 := n0_; have HB := n1_; have BK102 := n2_; have GW102 := n3_; have GE102 := n4_; have NB101_102 := n5_; have NB102_101 := n6_; clear n0_ n1_ n2_ n3_ n4_ n5_ n6_; clear hb hbox hg))
 (try simp only [Act.put, List.setIfInBounds_toArray, List.set_cons_zero, List.set_cons_succ])
 go_cut [33] (fun v33 wc => ∃ (kq : Nat) (x33_3 : Bool), v33 = .bool x33_3 ∧ Aside0 (block_Encode.j0 kq a1 a2 x33_3 l0_0 l0_1 l0_2 l0_3 l0_4 = some (r1, r2, r3, r4, r5, r6, r7, r8, r9)) ∧ Aside0 (kq ≤ k) ∧ Aside0 (wc.heap[gb101]? = some (.cells #[(.slice A0_0 l0_0.length c0_0), (.slice A0_1 l0_1.length c0_1), (.slice A0_2 l0_2.length c0_2), (.slice A0_3 l0_3.length c0_3), (.slice A0_4 l0_4.length c0_4)] 27 (0, 0))) ∧ Aside0 (wc.heap[gb102]? = some (.cells #[.int .i64 0, .int .i64 0, .int .i64 0, .int .i64 0, .int .i64 0, .int .i64 0, .int .i64 0] 35 (0, 0))) ∧ Aside0 (Below w.heap.size w wc))
 case first =>
  have H := HC4.out
  clear HC4
  by_cases c7 : a2 < 1
  ·
   rw [if_pos c7] at H
   have c7b0 : decide (a2 < 1) = true := decide_eq_true c7
   clear c7
   (first | rw [c7b0] | rw [c7b1] | (simp only [i64_w, i32_w]; rw [c7b0]) | skip)
   have H' := Aside0.mk H
   clear H
   go_wp2
   go_meet
   case rel => exact ⟨_, (true), (by first | rfl | (simp; done) | (simp [*]; done)), H', ⟨by first | omega | exact Nat.le_refl _⟩, ⟨by (with_reducible repeat (first | refine blk_drewN ?_ _ | refine blk_drew ?_ | refine blk_alloc ?_ _)); exact BK101.out⟩, ⟨by (with_reducible repeat (first | refine blk_drewN ?_ _ | refine blk_drew ?_ | refine blk_alloc ?_ _)); exact BK102.out⟩, ⟨by repeat (first | (with_reducible first | exact HB.out | apply below_alloc | apply pw_below_drewN | apply below_drew1 | refine below_set ?_ GE101.out | refine below_set ?_ GE102.out) | exact HB.out)⟩⟩
  ·
   rw [if_neg c7] at H
   have c7b0 : decide (a2 < 1) = false := decide_eq_false c7
   clear c7
   (first | rw [c7b0] | rw [c7b1] | (simp only [i64_w, i32_w]; rw [c7b0]) | skip)
   by_cases c8 : a2 > 4
   ·
    rw [if_pos c8] at H
    have c8b0 : decide (4 < a2) = true := decide_eq_true c8
    clear c8
    have H' := Aside0.mk H
    clear H
    go_wp2
    go_meet
    case rel => exact ⟨_, (true), (by first | rfl | (simp; done) | (simp [*]; done)), H', ⟨by first | omega | exact Nat.le_refl _⟩, ⟨by (with_reducible repeat (first | refine blk_drewN ?_ _ | refine blk_drew ?_ | refine blk_alloc ?_ _)); exact BK101.out⟩, ⟨by (with_reducible repeat (first | refine blk_drewN ?_ _ | refine blk_drew ?_ | refine blk_alloc ?_ _)); exact BK102.out⟩, ⟨by repeat (first | (with_reducible first | exact HB.out | apply below_alloc | apply pw_below_drewN | apply below_drew1 | refine below_set ?_ GE101.out | refine below_set ?_ GE102.out) | exact HB.out)⟩⟩
   ·
    rw [if_neg c8] at H
    have c8b0 : decide (4 < a2) = false := decide_eq_false c8
    clear c8
    replace H := Option.bind_eq_some_iff.mp H
    obtain ⟨t103, A90, H⟩ := H
    replace H : (block_Encode.j0 k a1 a2 (!t103) l0_0 l0_1 l0_2 l0_3 l0_4) = some (r1, r2, r3, r4, r5, r6, r7, r8, r9) := H
    have A9 := Aside0.mk A90
    clear A90
    have H' := Aside0.mk H
    clear H
    have hnb10 := NB101_102.out
    have hnc10 := NB102_101.out
    have hcz11_0 : w6.cell? ⟨gb101, 0, none⟩ = some (.slice A0_0 l0_0.length c0_0) := (blk_cell BK101.out 0).trans rfl
    have hcz11_1 : w6.cell? ⟨gb101, 1, none⟩ = some (.slice A0_1 l0_1.length c0_1) := (blk_cell BK101.out 1).trans rfl
    have hcz11_2 : w6.cell? ⟨gb101, 2, none⟩ = some (.slice A0_2 l0_2.length c0_2) := (blk_cell BK101.out 2).trans rfl
    have hcz11_3 : w6.cell? ⟨gb101, 3, none⟩ = some (.slice A0_3 l0_3.length c0_3) := (blk_cell BK101.out 3).trans rfl
    have hcz11_4 : w6.cell? ⟨gb101, 4, none⟩ = some (.slice A0_4 l0_4.length c0_4) := (blk_cell BK101.out 4).trans rfl
    have hfz11_0 := blk_frozen BK101.out 0
    have hfz11_1 := blk_frozen BK101.out 1
    have hfz11_2 := blk_frozen BK101.out 2
    have hfz11_3 := blk_frozen BK101.out 3
    have hfz11_4 := blk_frozen BK101.out 4
    go_wp2_with (first | (go_at_call 16; (with_reducible refine (block_Right.calls _ _ l0_0 _ _ l0_1 _ _ l0_2 _ _ l0_3 _ _ l0_4 a1 a2 t103 _ ?side1 ?side2 ?side3 ?side4 ?side5 ?side6 ?side7 ?side8 ?side9 ?side10 A9.out).mono ?_); (case side1 => repeat (first | exact (Kd.C_below HR0_0.out HB.out) | (with_reducible refine Kd.C_alloc ?_ _) | (with_reducible refine Kd.C_drewN ?_ _) | (with_reducible refine Kd.C_drew ?_))); (case side2 => exact HC0_0.out); (case side3 => repeat (first | exact (Kd.C_below HR0_1.out HB.out) | (with_reducible refine Kd.C_alloc ?_ _) | (with_reducible refine Kd.C_drewN ?_ _) | (with_reducible refine Kd.C_drew ?_))); (case side4 => exact HC0_1.out); (case side5 => repeat (first | exact (Kd.C_below HR0_2.out HB.out) | (with_reducible refine Kd.C_alloc ?_ _) | (with_reducible refine Kd.C_drewN ?_ _) | (with_reducible refine Kd.C_drew ?_))); (case side6 => exact HC0_2.out); (case side7 => repeat (first | exact (Kd.C_below HR0_3.out HB.out) | (with_reducible refine Kd.C_alloc ?_ _) | (with_reducible refine Kd.C_drewN ?_ _) | (with_reducible refine Kd.C_drew ?_))); (case side8 => exact HC0_3.out); (case side9 => repeat (first | exact (Kd.C_below HR0_4.out HB.out) | (with_reducible refine Kd.C_alloc ?_ _) | (with_reducible refine Kd.C_drewN ?_ _) | (with_reducible refine Kd.C_drew ?_))); (case side10 => exact HC0_4.out); rintro e w12 ⟨rfl, hb⟩; have n0_ := Aside0.mk (blk_below (g := gb101) (o := .cells #[.slice A0_0 l0_0.length c0_0, .slice A0_1 l0_1.length c0_1, .slice A0_2 l0_2.length c0_2, .slice A0_3 l0_3.length c0_3, .slice A0_4 l0_4.length c0_4] 27 (0, 0)) (by (with_reducible repeat (first | refine blk_drewN ?_ _ | refine blk_drew ?_ | refine blk_alloc ?_ _)); exact BK101.out) hb); have n1_ := Aside0.mk (blk_below (g := gb102) (o := .cells #[.int .i64 0, .int .i64 0, .int .i64 0, .int .i64 0, .int .i64 0, .int .i64 0, .int .i64 0] 35 (0, 0)) (by (with_reducible repeat (first | refine blk_drewN ?_ _ | refine blk_drew ?_ | refine blk_alloc ?_ _)); exact BK102.out) hb); have n2_ := Aside0.mk (below_step (by repeat (first | (with_reducible first | exact HB.out | apply below_alloc | apply pw_below_drewN | apply below_drew1 | refine below_set ?_ GE101.out | refine below_set ?_ GE102.out) | exact HB.out)) hb); clear BK101; clear BK102; clear HB; have BK101 := n0_; have BK102 := n1_; have HB := n2_; clear n0_ n1_ n2_; (try clear hb); (try clear hb2); (try clear hk); (try clear hi)))
    go_meet
    case rel => exact ⟨_, (!t103), (by first | rfl | (simp; done) | (simp [*]; done)), H', ⟨by first | omega | exact Nat.le_refl _⟩, ⟨by (with_reducible repeat (first | refine blk_drewN ?_ _ | refine blk_drew ?_ | refine blk_alloc ?_ _)); exact BK101.out⟩, ⟨by (with_reducible repeat (first | refine blk_drewN ?_ _ | refine blk_drew ?_ | refine blk_alloc ?_ _)); exact BK102.out⟩, ⟨by repeat (first | (with_reducible first | exact HB.out | apply below_alloc | apply pw_below_drewN | apply below_drew1 | refine below_set ?_ GE101.out | refine below_set ?_ GE102.out) | exact HB.out)⟩⟩
 case rest =>
  clear HC4
  try clear c1
  try clear p2
  try clear c7
  try clear c7b0
  try clear c8
  try clear c8b0
  try clear c10
  try clear hcz11_0
  try clear hcz11_1
  try clear hcz11_2
  try clear hcz11_3
  try clear hcz11_4
  try clear hfz11_0
  try clear hfz11_1
  try clear hfz11_2
  try clear hfz11_3
  try clear hfz11_4
  obtain ⟨kq, x33_3, rfl, HA, HJ3, BK101, BK102, HB⟩ := hcut
  cases kq with
  | zero => exact absurd HA.out (by simp [block_Encode.j0])
  | succ kj3 =>
   have H := HA.out
   clear HA
   simp only [block_Encode.j0] at H
   by_cases c13 : x33_3 = true
   ·
    subst c13
    have H1 : (some (([] : List Int), 0, 0, 0, 0, 0, 0, 0, 1)) = some (r1, r2, r3, r4, r5, r6, r7, r8, r9) := by rw [if_pos rfl] at H; exact H
    clear H
    have H := H1
    clear H1
    simp only [Option.some.injEq, Prod.mk.injEq] at H
    obtain ⟨rfl, rfl, rfl, rfl, rfl, rfl, rfl, rfl, rfl⟩ := H
    have hnb14 := NB102_101.out
    have hnc14 := NB101_102.out
    have hcz15_0 : wc.cell? ⟨gb102, 0, none⟩ = some (.int .i64 0) := (blk_cell BK102.out 0).trans rfl
    have hcz15_1 : wc.cell? ⟨gb102, 1, none⟩ = some (.int .i64 0) := (blk_cell BK102.out 1).trans rfl
    have hcz15_2 : wc.cell? ⟨gb102, 2, none⟩ = some (.int .i64 0) := (blk_cell BK102.out 2).trans rfl
    have hcz15_3 : wc.cell? ⟨gb102, 3, none⟩ = some (.int .i64 0) := (blk_cell BK102.out 3).trans rfl
    have hcz15_4 : wc.cell? ⟨gb102, 4, none⟩ = some (.int .i64 0) := (blk_cell BK102.out 4).trans rfl
    have hcz15_5 : wc.cell? ⟨gb102, 5, none⟩ = some (.int .i64 0) := (blk_cell BK102.out 5).trans rfl
    have hcz15_6 : wc.cell? ⟨gb102, 6, none⟩ = some (.int .i64 0) := (blk_cell BK102.out 6).trans rfl
    have hfz15_0 := blk_frozen BK102.out 0
    have hfz15_1 := blk_frozen BK102.out 1
    have hfz15_2 := blk_frozen BK102.out 2
    have hfz15_3 := blk_frozen BK102.out 3
    have hfz15_4 := blk_frozen BK102.out 4
    have hfz15_5 := blk_frozen BK102.out 5
    have hfz15_6 := blk_frozen BK102.out 6
    go_wp2
    refine bodyPost_ret (results_list (rs := [.tmp 6, .cell 7 35, .tmp 8]) rfl (by simp) (.tmp (.cell gb102 35 #[.int .i64 0, .int .i64 0, .int .i64 0, .int .i64 0, .int .i64 0, .int .i64 0, .int .i64 0] (0, 0) _ rfl (by (with_reducible repeat (first | refine blk_drewN ?_ _ | refine blk_drew ?_ | refine blk_alloc ?_ _)); refine blk_put (cs := #[.int .i64 0, .int .i64 0, .int .i64 0, .int .i64 0, .int .i64 0, .int .i64 0, .int .i64 0]) ?_ 6 _ rfl; (with_reducible repeat (first | refine blk_drewN ?_ _ | refine blk_drew ?_ | refine blk_alloc ?_ _)); refine blk_put (cs := #[.int .i64 0, .int .i64 0, .int .i64 0, .int .i64 0, .int .i64 0, .int .i64 0, .int .i64 0]) ?_ 5 _ rfl; (with_reducible repeat (first | refine blk_drewN ?_ _ | refine blk_drew ?_ | refine blk_alloc ?_ _)); refine blk_put (cs := #[.int .i64 0, .int .i64 0, .int .i64 0, .int .i64 0, .int .i64 0, .int .i64 0, .int .i64 0]) ?_ 4 _ rfl; (with_reducible repeat (first | refine blk_drewN ?_ _ | refine blk_drew ?_ | refine blk_alloc ?_ _)); refine blk_put (cs := #[.int .i64 0, .int .i64 0, .int .i64 0, .int .i64 0, .int .i64 0, .int .i64 0, .int .i64 0]) ?_ 3 _ rfl; (with_reducible repeat (first | refine blk_drewN ?_ _ | refine blk_drew ?_ | refine blk_alloc ?_ _)); refine blk_put (cs := #[.int .i64 0, .int .i64 0, .int .i64 0, .int .i64 0, .int .i64 0, .int .i64 0, .int .i64 0]) ?_ 2 _ rfl; (with_reducible repeat (first | refine blk_drewN ?_ _ | refine blk_drew ?_ | refine blk_alloc ?_ _)); refine blk_put (cs := #[.int .i64 0, .int .i64 0, .int .i64 0, .int .i64 0, .int .i64 0, .int .i64 0, .int .i64 0]) ?_ 1 _ rfl; (with_reducible repeat (first | refine blk_drewN ?_ _ | refine blk_drew ?_ | refine blk_alloc ?_ _)); refine blk_put (cs := #[.int .i64 0, .int .i64 0, .int .i64 0, .int .i64 0, .int .i64 0, .int .i64 0, .int .i64 0]) ?_ 0 _ rfl; (with_reducible repeat (first | refine blk_drewN ?_ _ | refine blk_drew ?_ | refine blk_alloc ?_ _)); exact BK102.out) Try.underlying35 rfl (by kernel_rfl) (.tmp .nil)))) rfl ?_
    exact ⟨_, by first | rfl | (simp [errW_none, errW_some] <;> rfl) | (simp [*, errW_none, errW_some] <;> rfl), by first | exact Kd.R_nil _ _ _ _ _ | exact Kd.N_nil _ _ _ _ _ | exact Kd.V_nil _ _ _ _ _ | exact Kd.Q_nil _ _ _ _ _ | exact Kd.S_nil _ _ _ _ _, by repeat (first | (with_reducible first | exact HB.out | apply below_alloc | apply pw_below_drewN | apply below_drew1 | refine below_set ?_ GE101.out | refine below_set ?_ GE102.out) | exact HB.out)⟩
   ·
    replace c13 := Bool.eq_false_iff.mpr c13
    subst c13
    have H1 : (block_Encode.l0 kj3 a1 a2 ([] : List Int) l0_1 (l0_1.length : Int) 0 l0_0 l0_1 l0_2 l0_3 l0_4) = some (r1, r2, r3, r4, r5, r6, r7, r8, r9) := by rw [if_neg (show ¬ (false = true) by decide)] at H; exact H
    clear H
    have H := H1
    clear H1
    have H' := Aside0.mk H
    clear H
    have hnb16 := NB101_102.out
    have hnc16 := NB102_101.out
    have hcz17_0 : wc.cell? ⟨gb101, 0, none⟩ = some (.slice A0_0 l0_0.length c0_0) := (blk_cell BK101.out 0).trans rfl
    have hcz17_1 : wc.cell? ⟨gb101, 1, none⟩ = some (.slice A0_1 l0_1.length c0_1) := (blk_cell BK101.out 1).trans rfl
    have hcz17_2 : wc.cell? ⟨gb101, 2, none⟩ = some (.slice A0_2 l0_2.length c0_2) := (blk_cell BK101.out 2).trans rfl
    have hcz17_3 : wc.cell? ⟨gb101, 3, none⟩ = some (.slice A0_3 l0_3.length c0_3) := (blk_cell BK101.out 3).trans rfl
    have hcz17_4 : wc.cell? ⟨gb101, 4, none⟩ = some (.slice A0_4 l0_4.length c0_4) := (blk_cell BK101.out 4).trans rfl
    have hfz17_0 := blk_frozen BK101.out 0
    have hfz17_1 := blk_frozen BK101.out 1
    have hfz17_2 := blk_frozen BK101.out 2
    have hfz17_3 := blk_frozen BK101.out 3
    have hfz17_4 := blk_frozen BK101.out 4
    go_wp2
    go_loopg [9, 38] kj3 (fun kq v9 v38 w' => ∃ (x9_2 : List Int) (x38_2 : Int), v38 = .int .i64 x38_2 ∧ Aside0 (block_Encode.l0 kq a1 a2 x9_2 l0_1 (l0_1.length : Int) x38_2 l0_0 l0_1 l0_2 l0_3 l0_4 = some (r1, r2, r3, r4, r5, r6, r7, r8, r9)) ∧ Aside0 (kq ≤ kj3) ∧ Aside0 (Kd.R (Kd.int .u8) 5 w' w.heap.size (fun _ => True) v9 x9_2) ∧ Aside0 (w'.heap[gb101]? = some (.cells #[(.slice A0_0 l0_0.length c0_0), (.slice A0_1 l0_1.length c0_1), (.slice A0_2 l0_2.length c0_2), (.slice A0_3 l0_3.length c0_3), (.slice A0_4 l0_4.length c0_4)] 27 (0, 0))) ∧ Aside0 (w'.heap[gb102]? = some (.cells #[.int .i64 0, .int .i64 0, .int .i64 0, .int .i64 0, .int .i64 0, .int .i64 0, .int .i64 0] 35 (0, 0))) ∧ Aside0 (Below w.heap.size w w'))
    case atStart => exact ⟨(([] : List Int)), (0), (by first | rfl | (simp; done) | (simp [*]; done)), H', ⟨Nat.le_refl _⟩, ⟨by first | exact Kd.R_nil _ _ _ _ _ | exact Kd.N_nil _ _ _ _ _ | exact Kd.V_nil _ _ _ _ _ | exact Kd.Q_nil _ _ _ _ _ | exact Kd.S_nil _ _ _ _ _⟩, ⟨by (with_reducible repeat (first | refine blk_drewN ?_ _ | refine blk_drew ?_ | refine blk_alloc ?_ _)); exact BK101.out⟩, ⟨by (with_reducible repeat (first | refine blk_drewN ?_ _ | refine blk_drew ?_ | refine blk_alloc ?_ _)); exact BK102.out⟩, ⟨by repeat (first | (with_reducible first | exact HB.out | apply below_alloc | apply pw_below_drewN | apply below_drew1 | refine below_set ?_ GE101.out | refine below_set ?_ GE102.out) | exact HB.out)⟩⟩
    case round =>
     clear H'
     try clear c1
     try clear p2
     try clear c7
     try clear c7b0
     try clear c8
     try clear c8b0
     try clear c10
     try clear c13
     try clear c14
     try clear c15
     try clear c16
     try clear hcz11_0
     try clear hcz11_1
     try clear hcz11_2
     try clear hcz11_3
     try clear hcz11_4
     try clear hcz15_0
     try clear hcz15_1
     try clear hcz15_2
     try clear hcz15_3
     try clear hcz15_4
     try clear hcz15_5
     try clear hcz15_6
     try clear hcz17_0
     try clear hcz17_1
     try clear hcz17_2
     try clear hcz17_3
     try clear hcz17_4
     try clear hfz11_0
     try clear hfz11_1
     try clear hfz11_2
     try clear hfz11_3
     try clear hfz11_4
     try clear hfz15_0
     try clear hfz15_1
     try clear hfz15_2
     try clear hfz15_3
     try clear hfz15_4
     try clear hfz15_5
     try clear hfz15_6
     try clear hfz17_0
     try clear hfz17_1
     try clear hfz17_2
     try clear hfz17_3
     try clear hfz17_4
     try clear p2
     obtain ⟨x9_2, x38_2, rfl, HA, HK2, HO_9, BK101, BK102, HB⟩ := hrel
     cases gk with
     | zero => exact absurd HA.out (by simp [block_Encode.l0])
     | succ k2 =>
      have H := HA.out
      clear HA
      simp only [block_Encode.l0] at H
      by_cases c18 : x38_2 < (l0_1.length : Int)
      ·
       rw [if_pos c18] at H
       have c18b0 : decide (x38_2 < (l0_1.length : Int)) = true := decide_eq_true c18
       clear c18
       by_cases c19 : 0 ≤ x38_2
       ·
        rw [if_pos c19] at H
        have c19b0 : decide (0 ≤ x38_2) = true := decide_eq_true c19
        clear c19
        by_cases c20 : x38_2 < (l0_1.length : Int)
        ·
         rw [if_pos c20] at H
         have c20b0 : decide (x38_2 < (l0_1.length : Int)) = true := decide_eq_true c20
         clear c20
         replace H := Option.bind_eq_some_iff.mp H
         obtain ⟨t106, A210, H⟩ := H
         replace H : (if x9_2.length + t106.length < 140737488355328 then (block_Encode.l0 k2 a1 a2 (x9_2 ++ t106) l0_1 (l0_1.length : Int) (wrap64 (x38_2 + 1)) l0_0 l0_1 l0_2 l0_3 l0_4) else (none)) = some (r1, r2, r3, r4, r5, r6, r7, r8, r9) := H
         have A21 := Aside0.mk A210
         clear A210
         by_cases c22 : x9_2.length + t106.length < 140737488355328
         ·
          rw [if_pos c22] at H
          have LMc22 := Aside0.mk c22
          clear c22
          obtain ⟨y109, hy109⟩ : ∃ y_ : List Int, y_ = (x9_2 ++ t106) := ⟨_, rfl⟩
          replace H : (block_Encode.l0 k2 a1 a2 y109 l0_1 (l0_1.length : Int) (wrap64 (x38_2 + 1)) l0_0 l0_1 l0_2 l0_3 l0_4) = some (r1, r2, r3, r4, r5, r6, r7, r8, r9) := by first | (rw [hy109]; with_reducible exact H) | (have H2_ := (Option.bind_some _ _).symm.trans H; rw [hy109]; with_reducible exact H2_) | (have H2_ := (Option.bind_some _ _).symm.trans H; with_reducible exact H2_) | with_reducible exact H | (rw [hy109]; exact H) | exact H
          have Ny109 := Aside0.mk hy109
          clear hy109
          have H' := Aside0.mk H
          clear H
          have p104 : 0 ≤ (x38_2 : Int) := of_decide_eq_true (by first | (with_reducible assumption) | assumption)
          have q104 : x38_2 < (l0_1.length : Int) := of_decide_eq_true (by first | (with_reducible assumption) | assumption)
          obtain ⟨ad104, e104, hx104_0, hx104_1⟩ := at_T54 HR0_1.out x38_2 p104 q104
          cases e104
          replace hx104_0 := (HB.out.cell (World.block_lt_of_cell? w _ hx104_0)).trans hx104_0
          replace hx104_1 := (HB.out.cell (World.block_lt_of_cell? w _ hx104_1)).trans hx104_1
          replace p104 := eq_true p104
          replace q104 := eq_true q104
          go_wp2_with (first | ((with_reducible refine gate_dst (N := 11) rfl ?_); refine box_event ?hg (N := 11) ?hd (cs := #[.int .i64 0, .int .i64 0]) (t := 54) ?hr ?_; (case hd => rfl); (case hg => rfl); (case hr => first | (go_simp; done) | (go_simp; rfl)); intro gb105 hg w23 hbox hb; have n0_ := Aside0.mk (Kd.R_below (by (with_reducible repeat (first | apply Kd.R_alloc | apply Kd.R_drewN | apply Kd.R_drew)); exact HO_9.out) hb); have n1_ := Aside0.mk (blk_below (g := gb101) (o := .cells #[.slice A0_0 l0_0.length c0_0, .slice (some ad104) l0_1.length c0_1, .slice A0_2 l0_2.length c0_2, .slice A0_3 l0_3.length c0_3, .slice A0_4 l0_4.length c0_4] 27 (0, 0)) (by (with_reducible repeat (first | refine blk_drewN ?_ _ | refine blk_drew ?_ | refine blk_alloc ?_ _)); exact BK101.out) hb); have n2_ := Aside0.mk (blk_below (g := gb102) (o := .cells #[.int .i64 0, .int .i64 0, .int .i64 0, .int .i64 0, .int .i64 0, .int .i64 0, .int .i64 0] 35 (0, 0)) (by (with_reducible repeat (first | refine blk_drewN ?_ _ | refine blk_drew ?_ | refine blk_alloc ?_ _)); exact BK102.out) hb); have n3_ := Aside0.mk (below_step (by repeat (first | (with_reducible first | exact HB.out | apply below_alloc | apply pw_below_drewN | apply below_drew1 | refine below_set ?_ GE101.out | refine below_set ?_ GE102.out) | exact HB.out)) hb); have n4_ := Aside0.mk (hbox); have n5_ := Aside0.mk ((by rw [hg]; exact (below_size (by repeat (first | (with_reducible first | exact HB.out | apply below_alloc | apply pw_below_drewN | apply below_drew1 | refine below_set ?_ GE101.out | refine below_set ?_ GE102.out) | exact HB.out))) : w.heap.size ≤ gb105)); have n6_ := Aside0.mk ((by rw [hg]; exact (below_size (by repeat (first | (with_reducible first | exact HB.out | apply below_alloc | apply pw_below_drewN | apply below_drew1 | refine below_set ?_ GE101.out | refine below_set ?_ GE102.out) | exact HB.out))) : w.heap.size ≤ gb105)); have n7_ := Aside0.mk ((by rw [hg]; exact Nat.ne_of_lt (blk_lt (g := gb101) (o := .cells #[.slice A0_0 l0_0.length c0_0, .slice (some ad104) l0_1.length c0_1, .slice A0_2 l0_2.length c0_2, .slice A0_3 l0_3.length c0_3, .slice A0_4 l0_4.length c0_4] 27 (0, 0)) (by (with_reducible repeat (first | refine blk_drewN ?_ _ | refine blk_drew ?_ | refine blk_alloc ?_ _)); exact BK101.out)) : gb101 ≠ gb105)); have n8_ := Aside0.mk ((by rw [hg]; exact Nat.ne_of_gt (blk_lt (g := gb101) (o := .cells #[.slice A0_0 l0_0.length c0_0, .slice (some ad104) l0_1.length c0_1, .slice A0_2 l0_2.length c0_2, .slice A0_3 l0_3.length c0_3, .slice A0_4 l0_4.length c0_4] 27 (0, 0)) (by (with_reducible repeat (first | refine blk_drewN ?_ _ | refine blk_drew ?_ | refine blk_alloc ?_ _)); exact BK101.out)) : gb105 ≠ gb101)); have n9_ := Aside0.mk ((by rw [hg]; exact Nat.ne_of_lt (blk_lt (g := gb102) (o := .cells #[.int .i64 0, .int .i64 0, .int .i64 0, .int .i64 0, .int .i64 0, .int .i64 0, .int .i64 0] 35 (0, 0)) (by (with_reducible repeat (first | refine blk_drewN ?_ _ | refine blk_drew ?_ | refine blk_alloc ?_ _)); exact BK102.out)) : gb102 ≠ gb105)); have n10_ := Aside0.mk ((by rw [hg]; exact Nat.ne_of_gt (blk_lt (g := gb102) (o := .cells #[.int .i64 0, .int .i64 0, .int .i64 0, .int .i64 0, .int .i64 0, .int .i64 0, .int .i64 0] 35 (0, 0)) (by (with_reducible repeat (first | refine blk_drewN ?_ _ | refine blk_drew ?_ | refine blk_alloc ?_ _)); exact BK102.out)) : gb105 ≠ gb102)); clear HO_9; clear BK101; clear BK102; clear HB; have HO_9 := n0_; have BK101 := n1_; have BK102 := n2_; have HB := n3_; have BK105 := n4_; have GW105 := n5_; have GE105 := n6_; have NB101_105 := n7_; have NB105_101 := n8_; have NB102_105 := n9_; have NB105_102 := n10_; clear n0_ n1_ n2_ n3_ n4_ n5_ n6_ n7_ n8_ n9_ n10_; clear hb hbox hg; have hnb24 := NB105_101.out; have hnc24 := NB101_105.out; have hnb25 := NB105_102.out; have hnc25 := NB102_105.out; have hcz26_0 : w23.cell? ⟨gb105, 0, none⟩ = some (.int .i64 0) := (blk_cell BK105.out 0).trans rfl; have hcz26_1 : w23.cell? ⟨gb105, 1, none⟩ = some (.int .i64 0) := (blk_cell BK105.out 1).trans rfl; have hfz26_0 := blk_frozen BK105.out 0; have hfz26_1 := blk_frozen BK105.out 1) | ((with_reducible refine gate_callee (f := 26) rfl ?_); refine goesL_ (some 47) rfl rfl Try.func26 (by kernel_rfl) rfl #[.slice none 0 0, .int .i64 a1, .int .u64 (IntKind.u64.wrap ((rd_T54 l0_1 x38_2).f0))] rfl (by (try simp only [List.map_toArray, List.map_cons, List.map_nil]); first | done | rfl | (simp only [List.length_drop, List.length_take]; rfl)) ?_; (refine (octets_Put.calls _ _ ([] : List Int) a1 (IntKind.u64.wrap ((rd_T54 l0_1 x38_2).f0)) t106 _ ?side1 ?side2 A21.out).mono ?_); (case side1 => exact Kd.C_nil _ _); (case side2 => exact Nat.le_refl _); rintro e w27 ⟨v107, rfl, ho0, hb⟩; refine ⟨_, rfl, ?_⟩; have n0_ := Aside0.mk (Kd.R_elder' (by (with_reducible repeat (first | apply Kd.R_alloc | apply Kd.R_drewN | apply Kd.R_drew)); exact (Kd.R_mono (Kd.R_far (p := ⟨gb105, 1, none⟩) (Kd.R_far (p := ⟨gb105, 0, none⟩) (Kd.R_types HO_9.out BK105.out (by decide)) (fun _ hk => hk.2) (.int .i64 ((rd_T54 l0_1 x38_2).f0))) (fun _ hk => hk.2) (.int .i64 ((rd_T54 l0_1 x38_2).f1))) (fun _ h_ => h_.1))) (Kd.R_base ho0) hb); have n1_ := Aside0.mk (Kd.R_lower (Kd.R_new' ho0 (Kd.R_lt (by (with_reducible repeat (first | apply Kd.R_alloc | apply Kd.R_drewN | apply Kd.R_drew)); exact (Kd.R_mono (Kd.R_far (p := ⟨gb105, 1, none⟩) (Kd.R_far (p := ⟨gb105, 0, none⟩) (Kd.R_types HO_9.out BK105.out (by decide)) (fun _ hk => hk.2) (.int .i64 ((rd_T54 l0_1 x38_2).f0))) (fun _ hk => hk.2) (.int .i64 ((rd_T54 l0_1 x38_2).f1))) (fun _ h_ => h_.1))))) (below_size (by repeat (first | (with_reducible first | exact HB.out | apply below_alloc | apply pw_below_drewN | apply below_drew1 | refine below_set ?_ GE101.out | refine below_set ?_ GE102.out | refine below_set ?_ GE105.out) | exact HB.out)))); have n2_ := Aside0.mk (blk_below (g := gb101) (o := .cells #[.slice A0_0 l0_0.length c0_0, .slice (some ad104) l0_1.length c0_1, .slice A0_2 l0_2.length c0_2, .slice A0_3 l0_3.length c0_3, .slice A0_4 l0_4.length c0_4] 27 (0, 0)) (by (with_reducible repeat (first | refine blk_drewN ?_ _ | refine blk_drew ?_ | refine blk_alloc ?_ _)); refine blk_far ?_ NB101_105.out _; (with_reducible repeat (first | refine blk_drewN ?_ _ | refine blk_drew ?_ | refine blk_alloc ?_ _)); refine blk_far ?_ NB101_105.out _; (with_reducible repeat (first | refine blk_drewN ?_ _ | refine blk_drew ?_ | refine blk_alloc ?_ _)); exact BK101.out) hb); have n3_ := Aside0.mk (blk_below (g := gb102) (o := .cells #[.int .i64 0, .int .i64 0, .int .i64 0, .int .i64 0, .int .i64 0, .int .i64 0, .int .i64 0] 35 (0, 0)) (by (with_reducible repeat (first | refine blk_drewN ?_ _ | refine blk_drew ?_ | refine blk_alloc ?_ _)); refine blk_far ?_ NB102_105.out _; (with_reducible repeat (first | refine blk_drewN ?_ _ | refine blk_drew ?_ | refine blk_alloc ?_ _)); refine blk_far ?_ NB102_105.out _; (with_reducible repeat (first | refine blk_drewN ?_ _ | refine blk_drew ?_ | refine blk_alloc ?_ _)); exact BK102.out) hb); have n4_ := Aside0.mk (blk_below (g := gb105) (o := .cells #[.int .i64 ((rd_T54 l0_1 x38_2).f0), .int .i64 ((rd_T54 l0_1 x38_2).f1)] 54 (0, 0)) (by (with_reducible repeat (first | refine blk_drewN ?_ _ | refine blk_drew ?_ | refine blk_alloc ?_ _)); refine blk_put (cs := #[.int .i64 ((rd_T54 l0_1 x38_2).f0), .int .i64 0]) ?_ 1 _ rfl; (with_reducible repeat (first | refine blk_drewN ?_ _ | refine blk_drew ?_ | refine blk_alloc ?_ _)); refine blk_put (cs := #[.int .i64 0, .int .i64 0]) ?_ 0 _ rfl; (with_reducible repeat (first | refine blk_drewN ?_ _ | refine blk_drew ?_ | refine blk_alloc ?_ _)); exact BK105.out) hb); have n5_ := Aside0.mk (below_step (by repeat (first | (with_reducible first | exact HB.out | apply below_alloc | apply pw_below_drewN | apply below_drew1 | refine below_set ?_ GE101.out | refine below_set ?_ GE102.out | refine below_set ?_ GE105.out) | exact HB.out)) hb); clear HO_9; clear BK101; clear BK102; clear BK105; clear HB; have HO_9 := n0_; have HO108 := n1_; have BK101 := n2_; have BK102 := n3_; have BK105 := n4_; have HB := n5_; clear n0_ n1_ n2_ n3_ n4_ n5_; (try clear hb); (try clear hb2); (try clear hk); (try clear hi); (try clear ho0); obtain ⟨Ao29, co29, eo29⟩ := Kd.R_slice HO108.out; subst eo29) | ((with_reducible refine gate_builtin (b := .append) (xs := #[.tmp 42, .tmp 47]) rfl ?_); at_builtin; refine Kd.R_append_rows (Kd.int .u8) (w0 := w) w.heap.size rfl (.tmp 42) (.tmp 47) 33 5 (.int .u8 0) 1 rfl Try.underlying33 info5 rfl (by decide) (by omega) u9 x9_2 t106 _ _ _ (fun k_ => some k_ ≠ (.slice Ao29 t106.length co29 : Value).ownBlock) (fun _ => False) rfl rfl ?aO ?aR (fun _ _ h => h) (fun _ h => h.elim) ?aF ?aB ?aS ?aL ?_; (case aR => repeat (first | exact (Kd.R_reads' HO108.out).2.2 | (with_reducible refine Kd.C_alloc ?_ _) | (with_reducible refine Kd.C_drewN ?_ _) | (with_reducible refine Kd.C_drew ?_))); (case aB => exact (by repeat (first | (with_reducible first | exact HB.out | apply below_alloc | apply pw_below_drewN | apply below_drew1 | refine below_set ?_ GE101.out | refine below_set ?_ GE102.out | refine below_set ?_ GE105.out) | exact HB.out))); (case aF => exact (fun k_ hk => Kd.fresh' (Kd.R_lt (by (with_reducible repeat (first | apply Kd.R_alloc | apply Kd.R_drewN | apply Kd.R_drew)); exact HO108.out)) k_ hk)); (case aO => exact (by (with_reducible repeat (first | apply Kd.R_alloc | apply Kd.R_drewN | apply Kd.R_drew)); exact Kd.R_mono HO_9.out (fun _ hk => hk.2))); (case aS => exact (below_size (by repeat (first | (with_reducible first | exact HB.out | apply below_alloc | apply pw_below_drewN | apply below_drew1 | refine below_set ?_ GE101.out | refine below_set ?_ GE102.out | refine below_set ?_ GE105.out) | exact HB.out)))); (case aL => have := LMc22.out; omega); intro v110 w28 ho hb hg hat; rw [← Ny109.out] at ho; have n0_ := Aside0.mk (blk_grown (g := gb101) (o := .cells #[.slice A0_0 l0_0.length c0_0, .slice (some ad104) l0_1.length c0_1, .slice A0_2 l0_2.length c0_2, .slice A0_3 l0_3.length c0_3, .slice A0_4 l0_4.length c0_4] 27 (0, 0)) (by (with_reducible repeat (first | refine blk_drewN ?_ _ | refine blk_drew ?_ | refine blk_alloc ?_ _)); exact BK101.out) hg (Kd.R_ne HO_9.out BK101.out (by decide))); have n1_ := Aside0.mk (blk_grown (g := gb102) (o := .cells #[.int .i64 0, .int .i64 0, .int .i64 0, .int .i64 0, .int .i64 0, .int .i64 0, .int .i64 0] 35 (0, 0)) (by (with_reducible repeat (first | refine blk_drewN ?_ _ | refine blk_drew ?_ | refine blk_alloc ?_ _)); exact BK102.out) hg (Kd.R_ne HO_9.out BK102.out (by decide))); have n2_ := Aside0.mk (blk_grown (g := gb105) (o := .cells #[.int .i64 ((rd_T54 l0_1 x38_2).f0), .int .i64 ((rd_T54 l0_1 x38_2).f1)] 54 (0, 0)) (by (with_reducible repeat (first | refine blk_drewN ?_ _ | refine blk_drew ?_ | refine blk_alloc ?_ _)); exact BK105.out) hg (Kd.R_ne HO_9.out BK105.out (by decide))); have n3_ := Aside0.mk (Kd.R_after (ok := (fun _ => True)) (by (with_reducible repeat (first | apply Kd.R_alloc | apply Kd.R_drewN | apply Kd.R_drew)); exact HO108.out) hg hat); have n4_ := Aside0.mk (hb); have n5_ := Aside0.mk (ho); clear BK101; clear BK102; clear BK105; clear HO108; clear HB; clear HO_9; have BK101 := n0_; have BK102 := n1_; have BK105 := n2_; have HO108 := n3_; have HB := n4_; have HO111 := n5_; clear n0_ n1_ n2_ n3_ n4_ n5_; clear ho hb hg hat))
          go_roundg k2
          case measure => have := HJ3.out; have := HK2.out; omega
          case rel => exact ⟨(y109), (wrap64 (x38_2 + 1)), (by first | rfl | (simp; done) | (simp [*]; done)), H', ⟨by have := HJ3.out; have := HK2.out; omega⟩, ⟨by (with_reducible repeat (first | apply Kd.R_alloc | apply Kd.R_drewN | apply Kd.R_drew)); exact Kd.R_mono HO111.out (fun _ hk => trivial)⟩, ⟨by (with_reducible repeat (first | refine blk_drewN ?_ _ | refine blk_drew ?_ | refine blk_alloc ?_ _)); exact BK101.out⟩, ⟨by (with_reducible repeat (first | refine blk_drewN ?_ _ | refine blk_drew ?_ | refine blk_alloc ?_ _)); exact BK102.out⟩, ⟨by repeat (first | (with_reducible first | exact HB.out | apply below_alloc | apply pw_below_drewN | apply below_drew1 | refine below_set ?_ GE101.out | refine below_set ?_ GE102.out | refine below_set ?_ GE105.out) | exact HB.out)⟩⟩
         ·
          rw [if_neg c22] at H
          exact absurd H (by simp)
        ·
         rw [if_neg c20] at H
         exact absurd H (by simp)
       ·
        rw [if_neg c19] at H
        exact absurd H (by simp)
      ·
       rw [if_neg c18] at H
       have c18b0 : decide (x38_2 < (l0_1.length : Int)) = false := decide_eq_false c18
       clear c18
       have H' := Aside0.mk H
       clear H
       have hnb30 := NB101_102.out
       have hnc30 := NB102_101.out
       have hcz31_0 : wr.cell? ⟨gb101, 0, none⟩ = some (.slice A0_0 l0_0.length c0_0) := (blk_cell BK101.out 0).trans rfl
       have hcz31_1 : wr.cell? ⟨gb101, 1, none⟩ = some (.slice A0_1 l0_1.length c0_1) := (blk_cell BK101.out 1).trans rfl
       have hcz31_2 : wr.cell? ⟨gb101, 2, none⟩ = some (.slice A0_2 l0_2.length c0_2) := (blk_cell BK101.out 2).trans rfl
       have hcz31_3 : wr.cell? ⟨gb101, 3, none⟩ = some (.slice A0_3 l0_3.length c0_3) := (blk_cell BK101.out 3).trans rfl
       have hcz31_4 : wr.cell? ⟨gb101, 4, none⟩ = some (.slice A0_4 l0_4.length c0_4) := (blk_cell BK101.out 4).trans rfl
       have hfz31_0 := blk_frozen BK101.out 0
       have hfz31_1 := blk_frozen BK101.out 1
       have hfz31_2 := blk_frozen BK101.out 2
       have hfz31_3 := blk_frozen BK101.out 3
       have hfz31_4 := blk_frozen BK101.out 4
       go_wp2
       go_loopg [9, 53] k2 (fun kq v9 v53 w' => ∃ (x9_3 : List Int) (x53_3 : Int), v53 = .int .i64 x53_3 ∧ Aside0 (block_Encode.l1 kq a1 a2 x9_3 l0_1 (l0_1.length : Int) x53_3 l0_0 l0_1 l0_2 l0_3 l0_4 = some (r1, r2, r3, r4, r5, r6, r7, r8, r9)) ∧ Aside0 (kq ≤ k2) ∧ Aside0 (Kd.R (Kd.int .u8) 5 w' w.heap.size (fun _ => True) v9 x9_3) ∧ Aside0 (w'.heap[gb101]? = some (.cells #[(.slice A0_0 l0_0.length c0_0), (.slice A0_1 l0_1.length c0_1), (.slice A0_2 l0_2.length c0_2), (.slice A0_3 l0_3.length c0_3), (.slice A0_4 l0_4.length c0_4)] 27 (0, 0))) ∧ Aside0 (w'.heap[gb102]? = some (.cells #[.int .i64 0, .int .i64 0, .int .i64 0, .int .i64 0, .int .i64 0, .int .i64 0, .int .i64 0] 35 (0, 0))) ∧ Aside0 (Below w.heap.size w w'))
       case atStart => exact ⟨(x9_2), (0), (by first | rfl | (simp; done) | (simp [*]; done)), H', ⟨Nat.le_refl _⟩, ⟨by (with_reducible repeat (first | apply Kd.R_alloc | apply Kd.R_drewN | apply Kd.R_drew)); exact HO_9.out⟩, ⟨by (with_reducible repeat (first | refine blk_drewN ?_ _ | refine blk_drew ?_ | refine blk_alloc ?_ _)); exact BK101.out⟩, ⟨by (with_reducible repeat (first | refine blk_drewN ?_ _ | refine blk_drew ?_ | refine blk_alloc ?_ _)); exact BK102.out⟩, ⟨by repeat (first | (with_reducible first | exact HB.out | apply below_alloc | apply pw_below_drewN | apply below_drew1 | refine below_set ?_ GE101.out | refine below_set ?_ GE102.out) | exact HB.out)⟩⟩
       case round =>
        clear H'
        try clear c1
        try clear p1
        try clear q1
        try clear hx1
        try clear c2
        try clear p2
        try clear c3
        try clear p6
        try clear c7
        try clear c7b0
        try clear c8
        try clear c8b0
        try clear c10
        try clear p10
        try clear q10
        try clear hx10
        try clear c13
        try clear c14
        try clear c15
        try clear c16
        try clear c18
        try clear c18b0
        try clear c19
        try clear c19b0
        try clear c20
        try clear c20b0
        try clear c22
        try clear c24
        try clear c25
        try clear c26
        try clear c30
        try clear hcz11_0
        try clear hcz11_1
        try clear hcz11_2
        try clear hcz11_3
        try clear hcz11_4
        try clear hcz15_0
        try clear hcz15_1
        try clear hcz15_2
        try clear hcz15_3
        try clear hcz15_4
        try clear hcz15_5
        try clear hcz15_6
        try clear hcz17_0
        try clear hcz17_1
        try clear hcz17_2
        try clear hcz17_3
        try clear hcz17_4
        try clear hcz26_0
        try clear hcz26_1
        try clear hcz31_0
        try clear hcz31_1
        try clear hcz31_2
        try clear hcz31_3
        try clear hcz31_4
        try clear hfz11_0
        try clear hfz11_1
        try clear hfz11_2
        try clear hfz11_3
        try clear hfz11_4
        try clear hfz15_0
        try clear hfz15_1
        try clear hfz15_2
        try clear hfz15_3
        try clear hfz15_4
        try clear hfz15_5
        try clear hfz15_6
        try clear hfz17_0
        try clear hfz17_1
        try clear hfz17_2
        try clear hfz17_3
        try clear hfz17_4
        try clear hfz26_0
        try clear hfz26_1
        try clear hfz31_0
        try clear hfz31_1
        try clear hfz31_2
        try clear hfz31_3
        try clear hfz31_4
        try clear hx104_0
        try clear hx104_1
        try clear p104
        try clear p2
        try clear q104
        obtain ⟨x9_3, x53_3, rfl, HA, HK3, HO_9, BK101, BK102, HB⟩ := hrel
        cases gk with
        | zero => exact absurd HA.out (by simp [block_Encode.l1])
        | succ k3 =>
         have H := HA.out
         clear HA
         simp only [block_Encode.l1] at H
         by_cases c32 : x53_3 < (l0_1.length : Int)
         ·
          rw [if_pos c32] at H
          have c32b0 : decide (x53_3 < (l0_1.length : Int)) = true := decide_eq_true c32
          clear c32
          by_cases c33 : 0 ≤ x53_3
          ·
           rw [if_pos c33] at H
           have c33b0 : decide (0 ≤ x53_3) = true := decide_eq_true c33
           clear c33
           by_cases c34 : x53_3 < (l0_1.length : Int)
           ·
            rw [if_pos c34] at H
            have c34b0 : decide (x53_3 < (l0_1.length : Int)) = true := decide_eq_true c34
            clear c34
            by_cases c35 : x9_3.length < 140737488355328
            ·
             rw [if_pos c35] at H
             have LMc35 := Aside0.mk c35
             clear c35
             obtain ⟨y114, hy114⟩ : ∃ y_ : List Int, y_ = (x9_3 ++ [((rd_T54 l0_1 x53_3).f1) % 256]) := ⟨_, rfl⟩
             replace H : (block_Encode.l1 k3 a1 a2 y114 l0_1 (l0_1.length : Int) (wrap64 (x53_3 + 1)) l0_0 l0_1 l0_2 l0_3 l0_4) = some (r1, r2, r3, r4, r5, r6, r7, r8, r9) := by first | (rw [hy114]; with_reducible exact H) | (have H2_ := (Option.bind_some _ _).symm.trans H; rw [hy114]; with_reducible exact H2_) | (have H2_ := (Option.bind_some _ _).symm.trans H; with_reducible exact H2_) | with_reducible exact H | (rw [hy114]; exact H) | exact H
             have Ny114 := Aside0.mk hy114
             clear hy114
             have H' := Aside0.mk H
             clear H
             have p112 : 0 ≤ (x53_3 : Int) := of_decide_eq_true (by first | (with_reducible assumption) | assumption)
             have q112 : x53_3 < (l0_1.length : Int) := of_decide_eq_true (by first | (with_reducible assumption) | assumption)
             obtain ⟨ad112, e112, hx112_0, hx112_1⟩ := at_T54 HR0_1.out x53_3 p112 q112
             cases e112
             replace hx112_0 := (HB.out.cell (World.block_lt_of_cell? w _ hx112_0)).trans hx112_0
             replace hx112_1 := (HB.out.cell (World.block_lt_of_cell? w _ hx112_1)).trans hx112_1
             replace p112 := eq_true p112
             replace q112 := eq_true q112
             go_wp2_with (first | ((with_reducible refine gate_dst (N := 13) rfl ?_); refine box_event ?hg (N := 13) ?hd (cs := #[.int .i64 0, .int .i64 0]) (t := 54) ?hr ?_; (case hd => rfl); (case hg => rfl); (case hr => first | (go_simp; done) | (go_simp; rfl)); intro gb113 hg w36 hbox hb; have n0_ := Aside0.mk (Kd.R_below (by (with_reducible repeat (first | apply Kd.R_alloc | apply Kd.R_drewN | apply Kd.R_drew)); exact HO_9.out) hb); have n1_ := Aside0.mk (blk_below (g := gb101) (o := .cells #[.slice A0_0 l0_0.length c0_0, .slice (some ad112) l0_1.length c0_1, .slice A0_2 l0_2.length c0_2, .slice A0_3 l0_3.length c0_3, .slice A0_4 l0_4.length c0_4] 27 (0, 0)) (by (with_reducible repeat (first | refine blk_drewN ?_ _ | refine blk_drew ?_ | refine blk_alloc ?_ _)); exact BK101.out) hb); have n2_ := Aside0.mk (blk_below (g := gb102) (o := .cells #[.int .i64 0, .int .i64 0, .int .i64 0, .int .i64 0, .int .i64 0, .int .i64 0, .int .i64 0] 35 (0, 0)) (by (with_reducible repeat (first | refine blk_drewN ?_ _ | refine blk_drew ?_ | refine blk_alloc ?_ _)); exact BK102.out) hb); have n3_ := Aside0.mk (below_step (by repeat (first | (with_reducible first | exact HB.out | apply below_alloc | apply pw_below_drewN | apply below_drew1 | refine below_set ?_ GE101.out | refine below_set ?_ GE102.out) | exact HB.out)) hb); have n4_ := Aside0.mk (hbox); have n5_ := Aside0.mk ((by rw [hg]; exact (below_size (by repeat (first | (with_reducible first | exact HB.out | apply below_alloc | apply pw_below_drewN | apply below_drew1 | refine below_set ?_ GE101.out | refine below_set ?_ GE102.out) | exact HB.out))) : w.heap.size ≤ gb113)); have n6_ := Aside0.mk ((by rw [hg]; exact (below_size (by repeat (first | (with_reducible first | exact HB.out | apply below_alloc | apply pw_below_drewN | apply below_drew1 | refine below_set ?_ GE101.out | refine below_set ?_ GE102.out) | exact HB.out))) : w.heap.size ≤ gb113)); have n7_ := Aside0.mk ((by rw [hg]; exact Nat.ne_of_lt (blk_lt (g := gb101) (o := .cells #[.slice A0_0 l0_0.length c0_0, .slice (some ad112) l0_1.length c0_1, .slice A0_2 l0_2.length c0_2, .slice A0_3 l0_3.length c0_3, .slice A0_4 l0_4.length c0_4] 27 (0, 0)) (by (with_reducible repeat (first | refine blk_drewN ?_ _ | refine blk_drew ?_ | refine blk_alloc ?_ _)); exact BK101.out)) : gb101 ≠ gb113)); have n8_ := Aside0.mk ((by rw [hg]; exact Nat.ne_of_gt (blk_lt (g := gb101) (o := .cells #[.slice A0_0 l0_0.length c0_0, .slice (some ad112) l0_1.length c0_1, .slice A0_2 l0_2.length c0_2, .slice A0_3 l0_3.length c0_3, .slice A0_4 l0_4.length c0_4] 27 (0, 0)) (by (with_reducible repeat (first | refine blk_drewN ?_ _ | refine blk_drew ?_ | refine blk_alloc ?_ _)); exact BK101.out)) : gb113 ≠ gb101)); have n9_ := Aside0.mk ((by rw [hg]; exact Nat.ne_of_lt (blk_lt (g := gb102) (o := .cells #[.int .i64 0, .int .i64 0, .int .i64 0, .int .i64 0, .int .i64 0, .int .i64 0, .int .i64 0] 35 (0, 0)) (by (with_reducible repeat (first | refine blk_drewN ?_ _ | refine blk_drew ?_ | refine blk_alloc ?_ _)); exact BK102.out)) : gb102 ≠ gb113)); have n10_ := Aside0.mk ((by rw [hg]; exact Nat.ne_of_gt (blk_lt (g := gb102) (o := .cells #[.int .i64 0, .int .i64 0, .int .i64 0, .int .i64 0, .int .i64 0, .int .i64 0, .int .i64 0] 35 (0, 0)) (by (with_reducible repeat (first | refine blk_drewN ?_ _ | refine blk_drew ?_ | refine blk_alloc ?_ _)); exact BK102.out)) : gb113 ≠ gb102)); clear HO_9; clear BK101; clear BK102; clear HB; have HO_9 := n0_; have BK101 := n1_; have BK102 := n2_; have HB := n3_; have BK113 := n4_; have GW113 := n5_; have GE113 := n6_; have NB101_113 := n7_; have NB113_101 := n8_; have NB102_113 := n9_; have NB113_102 := n10_; clear n0_ n1_ n2_ n3_ n4_ n5_ n6_ n7_ n8_ n9_ n10_; clear hb hbox hg; have hnb37 := NB113_101.out; have hnc37 := NB101_113.out; have hnb38 := NB113_102.out; have hnc38 := NB102_113.out; have hcz39_0 : w36.cell? ⟨gb113, 0, none⟩ = some (.int .i64 0) := (blk_cell BK113.out 0).trans rfl; have hcz39_1 : w36.cell? ⟨gb113, 1, none⟩ = some (.int .i64 0) := (blk_cell BK113.out 1).trans rfl; have hfz39_0 := blk_frozen BK113.out 0; have hfz39_1 := blk_frozen BK113.out 1) | ((with_reducible refine gate_builtin (b := .append) (xs := #[.tmp 57, .tmp 61]) rfl ?_); at_builtin; refine Kd.R_append (Kd.int .u8) (w0 := w) w.heap.size rfl (.tmp 57) (.tmp 61) 33 5 (.int .u8 0) 1 rfl Try.underlying33 info5 rfl (by decide) (by omega) u9 x9_3 (((rd_T54 l0_1 x53_3).f1) % 256) [.int .u8 (((rd_T54 l0_1 x53_3).f1) % 256)] (fun _ => True) (fun _ => False) rfl (by first | (go_simp; done) | (go_simp; rfl)) ?aP (fun _ hk => hk.elim) ?aF ?aO ?aB ?aS ?aL ?_; (case aP => exact rfl); (case aB => exact (by repeat (first | (with_reducible first | exact HB.out | apply below_alloc | apply pw_below_drewN | apply below_drew1 | refine below_set ?_ GE101.out | refine below_set ?_ GE102.out | refine below_set ?_ GE113.out) | exact HB.out))); (case aF => exact (fun _ _ => trivial)); (case aO => exact (by (with_reducible repeat (first | apply Kd.R_alloc | apply Kd.R_drewN | apply Kd.R_drew)); exact Kd.R_mono (Kd.R_far (p := ⟨gb113, 1, none⟩) (Kd.R_far (p := ⟨gb113, 0, none⟩) (Kd.R_types HO_9.out BK113.out (by decide)) (fun _ hk => hk.2) (.int .i64 ((rd_T54 l0_1 x53_3).f0))) (fun _ hk => hk.2) (.int .i64 ((rd_T54 l0_1 x53_3).f1))) (fun _ hk => trivial))); (case aS => exact (below_size (by repeat (first | (with_reducible first | exact HB.out | apply below_alloc | apply pw_below_drewN | apply below_drew1 | refine below_set ?_ GE101.out | refine below_set ?_ GE102.out | refine below_set ?_ GE113.out) | exact HB.out)))); (case aL => have := LMc35.out; omega); intro v115 w40 ho hb hg hat; rw [← Ny114.out] at ho; have n0_ := Aside0.mk (blk_grown (g := gb101) (o := .cells #[.slice A0_0 l0_0.length c0_0, .slice (some ad112) l0_1.length c0_1, .slice A0_2 l0_2.length c0_2, .slice A0_3 l0_3.length c0_3, .slice A0_4 l0_4.length c0_4] 27 (0, 0)) (by (with_reducible repeat (first | refine blk_drewN ?_ _ | refine blk_drew ?_ | refine blk_alloc ?_ _)); refine blk_far ?_ NB101_113.out _; (with_reducible repeat (first | refine blk_drewN ?_ _ | refine blk_drew ?_ | refine blk_alloc ?_ _)); refine blk_far ?_ NB101_113.out _; (with_reducible repeat (first | refine blk_drewN ?_ _ | refine blk_drew ?_ | refine blk_alloc ?_ _)); exact BK101.out) hg (Kd.R_ne HO_9.out BK101.out (by decide))); have n1_ := Aside0.mk (blk_grown (g := gb102) (o := .cells #[.int .i64 0, .int .i64 0, .int .i64 0, .int .i64 0, .int .i64 0, .int .i64 0, .int .i64 0] 35 (0, 0)) (by (with_reducible repeat (first | refine blk_drewN ?_ _ | refine blk_drew ?_ | refine blk_alloc ?_ _)); refine blk_far ?_ NB102_113.out _; (with_reducible repeat (first | refine blk_drewN ?_ _ | refine blk_drew ?_ | refine blk_alloc ?_ _)); refine blk_far ?_ NB102_113.out _; (with_reducible repeat (first | refine blk_drewN ?_ _ | refine blk_drew ?_ | refine blk_alloc ?_ _)); exact BK102.out) hg (Kd.R_ne HO_9.out BK102.out (by decide))); have n2_ := Aside0.mk (blk_grown (g := gb113) (o := .cells #[.int .i64 ((rd_T54 l0_1 x53_3).f0), .int .i64 ((rd_T54 l0_1 x53_3).f1)] 54 (0, 0)) (by (with_reducible repeat (first | refine blk_drewN ?_ _ | refine blk_drew ?_ | refine blk_alloc ?_ _)); refine blk_put (cs := #[.int .i64 ((rd_T54 l0_1 x53_3).f0), .int .i64 0]) ?_ 1 _ rfl; (with_reducible repeat (first | refine blk_drewN ?_ _ | refine blk_drew ?_ | refine blk_alloc ?_ _)); refine blk_put (cs := #[.int .i64 0, .int .i64 0]) ?_ 0 _ rfl; (with_reducible repeat (first | refine blk_drewN ?_ _ | refine blk_drew ?_ | refine blk_alloc ?_ _)); exact BK113.out) hg (Kd.R_ne HO_9.out BK113.out (by decide))); have n3_ := Aside0.mk (hb); have n4_ := Aside0.mk (ho); clear BK101; clear BK102; clear BK113; clear HB; clear HO_9; have BK101 := n0_; have BK102 := n1_; have BK113 := n2_; have HB := n3_; have HO116 := n4_; clear n0_ n1_ n2_ n3_ n4_; clear ho hb hg hat))
             go_roundg k3
             case measure => have := HJ3.out; have := HK2.out; have := HK3.out; omega
             case rel => exact ⟨(y114), (wrap64 (x53_3 + 1)), (by first | rfl | (simp; done) | (simp [*]; done)), H', ⟨by have := HJ3.out; have := HK2.out; have := HK3.out; omega⟩, ⟨by (with_reducible repeat (first | apply Kd.R_alloc | apply Kd.R_drewN | apply Kd.R_drew)); exact HO116.out⟩, ⟨by (with_reducible repeat (first | refine blk_drewN ?_ _ | refine blk_drew ?_ | refine blk_alloc ?_ _)); exact BK101.out⟩, ⟨by (with_reducible repeat (first | refine blk_drewN ?_ _ | refine blk_drew ?_ | refine blk_alloc ?_ _)); exact BK102.out⟩, ⟨by repeat (first | (with_reducible first | exact HB.out | apply below_alloc | apply pw_below_drewN | apply below_drew1 | refine below_set ?_ GE101.out | refine below_set ?_ GE102.out | refine below_set ?_ GE113.out) | exact HB.out)⟩⟩
            ·
             rw [if_neg c35] at H
             exact absurd H (by simp)
           ·
            rw [if_neg c34] at H
            exact absurd H (by simp)
          ·
           rw [if_neg c33] at H
           exact absurd H (by simp)
         ·
          rw [if_neg c32] at H
          have c32b0 : decide (x53_3 < (l0_1.length : Int)) = false := decide_eq_false c32
          clear c32
          replace H := Option.bind_eq_some_iff.mp H
          obtain ⟨⟨t117, t118⟩, A410, H⟩ := H
          replace H : (block_Encode.l2 k3 a1 a2 x9_3 t117 t118 l0_0 (l0_0.length : Int) 0 l0_0 l0_1 l0_2 l0_3 l0_4) = some (r1, r2, r3, r4, r5, r6, r7, r8, r9) := H
          have A41 := Aside0.mk A410
          clear A410
          have H' := Aside0.mk H
          clear H
          have hnb42 := NB101_102.out
          have hnc42 := NB102_101.out
          have hcz43_0 : wr.cell? ⟨gb101, 0, none⟩ = some (.slice A0_0 l0_0.length c0_0) := (blk_cell BK101.out 0).trans rfl
          have hcz43_1 : wr.cell? ⟨gb101, 1, none⟩ = some (.slice A0_1 l0_1.length c0_1) := (blk_cell BK101.out 1).trans rfl
          have hcz43_2 : wr.cell? ⟨gb101, 2, none⟩ = some (.slice A0_2 l0_2.length c0_2) := (blk_cell BK101.out 2).trans rfl
          have hcz43_3 : wr.cell? ⟨gb101, 3, none⟩ = some (.slice A0_3 l0_3.length c0_3) := (blk_cell BK101.out 3).trans rfl
          have hcz43_4 : wr.cell? ⟨gb101, 4, none⟩ = some (.slice A0_4 l0_4.length c0_4) := (blk_cell BK101.out 4).trans rfl
          have hfz43_0 := blk_frozen BK101.out 0
          have hfz43_1 := blk_frozen BK101.out 1
          have hfz43_2 := blk_frozen BK101.out 2
          have hfz43_3 := blk_frozen BK101.out 3
          have hfz43_4 := blk_frozen BK101.out 4
          go_wp2_with (first | ((with_reducible refine gate_callee (f := 27) rfl ?_); refine goesL_ (some 67) rfl rfl Try.func27 (by kernel_rfl) rfl #[.slice A0_0 l0_0.length c0_0] rfl (by (try simp only [List.map_toArray, List.map_cons, List.map_nil]); first | done | rfl | (simp only [List.length_drop, List.length_take]; rfl)) ?_; (with_reducible refine (block_names.calls _ _ l0_0 t117 t118 _ ?side1 ?side2 A41.out).mono ?_); (case side1 => repeat (first | exact (Kd.C_below HR0_0.out HB.out) | (with_reducible refine Kd.C_alloc ?_ _) | (with_reducible refine Kd.C_drewN ?_ _) | (with_reducible refine Kd.C_drew ?_))); (case side2 => exact HC0_0.out); rintro e w44 ⟨v119, rfl, ho0, hb⟩; refine ⟨_, rfl, ?_⟩; have n0_ := Aside0.mk (Kd.R_elder' (by (with_reducible repeat (first | apply Kd.R_alloc | apply Kd.R_drewN | apply Kd.R_drew)); exact HO_9.out) (Kd.R_base ho0) hb); have n1_ := Aside0.mk (Kd.R_lower (Kd.R_new' ho0 (Kd.R_lt (by (with_reducible repeat (first | apply Kd.R_alloc | apply Kd.R_drewN | apply Kd.R_drew)); exact HO_9.out))) (below_size (by repeat (first | (with_reducible first | exact HB.out | apply below_alloc | apply pw_below_drewN | apply below_drew1 | refine below_set ?_ GE101.out | refine below_set ?_ GE102.out) | exact HB.out)))); have n2_ := Aside0.mk (blk_below (g := gb101) (o := .cells #[.slice A0_0 l0_0.length c0_0, .slice A0_1 l0_1.length c0_1, .slice A0_2 l0_2.length c0_2, .slice A0_3 l0_3.length c0_3, .slice A0_4 l0_4.length c0_4] 27 (0, 0)) (by (with_reducible repeat (first | refine blk_drewN ?_ _ | refine blk_drew ?_ | refine blk_alloc ?_ _)); exact BK101.out) hb); have n3_ := Aside0.mk (blk_below (g := gb102) (o := .cells #[.int .i64 0, .int .i64 0, .int .i64 0, .int .i64 0, .int .i64 0, .int .i64 0, .int .i64 0] 35 (0, 0)) (by (with_reducible repeat (first | refine blk_drewN ?_ _ | refine blk_drew ?_ | refine blk_alloc ?_ _)); exact BK102.out) hb); have n4_ := Aside0.mk (below_step (by repeat (first | (with_reducible first | exact HB.out | apply below_alloc | apply pw_below_drewN | apply below_drew1 | refine below_set ?_ GE101.out | refine below_set ?_ GE102.out) | exact HB.out)) hb); clear HO_9; clear BK101; clear BK102; clear HB; have HO_9 := n0_; have HO120 := n1_; have BK101 := n2_; have BK102 := n3_; have HB := n4_; clear n0_ n1_ n2_ n3_ n4_; (try clear hb); (try clear hb2); (try clear hk); (try clear hi); (try clear ho0); have hcz45_0 : w44.cell? ⟨gb101, 0, none⟩ = some (.slice A0_0 l0_0.length c0_0) := (blk_cell BK101.out 0).trans rfl; have hcz45_1 : w44.cell? ⟨gb101, 1, none⟩ = some (.slice A0_1 l0_1.length c0_1) := (blk_cell BK101.out 1).trans rfl; have hcz45_2 : w44.cell? ⟨gb101, 2, none⟩ = some (.slice A0_2 l0_2.length c0_2) := (blk_cell BK101.out 2).trans rfl; have hcz45_3 : w44.cell? ⟨gb101, 3, none⟩ = some (.slice A0_3 l0_3.length c0_3) := (blk_cell BK101.out 3).trans rfl; have hcz45_4 : w44.cell? ⟨gb101, 4, none⟩ = some (.slice A0_4 l0_4.length c0_4) := (blk_cell BK101.out 4).trans rfl; have hfz45_0 := blk_frozen BK101.out 0; have hfz45_1 := blk_frozen BK101.out 1; have hfz45_2 := blk_frozen BK101.out 2; have hfz45_3 := blk_frozen BK101.out 3; have hfz45_4 := blk_frozen BK101.out 4))
          go_loopg [9, 73] k3 (fun kq v9 v73 w' => ∃ (x9_4 : List Int) (x73_4 : Int), v73 = .int .i64 x73_4 ∧ Aside0 (block_Encode.l2 kq a1 a2 x9_4 t117 t118 l0_0 (l0_0.length : Int) x73_4 l0_0 l0_1 l0_2 l0_3 l0_4 = some (r1, r2, r3, r4, r5, r6, r7, r8, r9)) ∧ Aside0 (kq ≤ k3) ∧ Aside0 (Kd.R (Kd.int .u8) 5 w' w.heap.size (fun k_ => some k_ ≠ (v119 : Value).ownBlock) v9 x9_4) ∧ Aside0 (Kd.R (Kd.int .u8) 5 w' w.heap.size (fun k_ => some k_ ≠ (v9 : Value).ownBlock) v119 t118) ∧ Aside0 (w'.heap[gb101]? = some (.cells #[(.slice A0_0 l0_0.length c0_0), (.slice A0_1 l0_1.length c0_1), (.slice A0_2 l0_2.length c0_2), (.slice A0_3 l0_3.length c0_3), (.slice A0_4 l0_4.length c0_4)] 27 (0, 0))) ∧ Aside0 (w'.heap[gb102]? = some (.cells #[.int .i64 0, .int .i64 0, .int .i64 0, .int .i64 0, .int .i64 0, .int .i64 0, .int .i64 0] 35 (0, 0))) ∧ Aside0 (Below w.heap.size w w'))
          case atStart => exact ⟨(x9_3), (0), (by first | rfl | (simp; done) | (simp [*]; done)), H', ⟨Nat.le_refl _⟩, ⟨by (with_reducible repeat (first | apply Kd.R_alloc | apply Kd.R_drewN | apply Kd.R_drew)); exact Kd.R_mono HO_9.out (fun _ hk => hk.2)⟩, ⟨by (with_reducible repeat (first | apply Kd.R_alloc | apply Kd.R_drewN | apply Kd.R_drew)); exact Kd.R_mono HO120.out (fun _ hk => hk.2)⟩, ⟨by (with_reducible repeat (first | refine blk_drewN ?_ _ | refine blk_drew ?_ | refine blk_alloc ?_ _)); exact BK101.out⟩, ⟨by (with_reducible repeat (first | refine blk_drewN ?_ _ | refine blk_drew ?_ | refine blk_alloc ?_ _)); exact BK102.out⟩, ⟨by repeat (first | (with_reducible first | exact HB.out | apply below_alloc | apply pw_below_drewN | apply below_drew1 | refine below_set ?_ GE101.out | refine below_set ?_ GE102.out) | exact HB.out)⟩⟩
          case round =>
           clear H'
           try clear c1
           try clear p1
           try clear q1
           try clear hx1
           try clear c2
           try clear p2
           try clear c3
           try clear c4
           try clear p6
           try clear c7
           try clear c7b0
           try clear c8
           try clear c8b0
           try clear c10
           try clear p10
           try clear q10
           try clear hx10
           try clear p11
           try clear q11
           try clear hx11
           try clear c13
           try clear c14
           try clear c15
           try clear c16
           try clear c18
           try clear c18b0
           try clear c19
           try clear c19b0
           try clear c20
           try clear c20b0
           try clear c22
           try clear c24
           try clear c25
           try clear c26
           try clear c27
           try clear c30
           try clear c32
           try clear c32b0
           try clear c33
           try clear c33b0
           try clear c34
           try clear c34b0
           try clear c35
           try clear c37
           try clear c38
           try clear c42
           try clear hcz11_0
           try clear hcz11_1
           try clear hcz11_2
           try clear hcz11_3
           try clear hcz11_4
           try clear hcz15_0
           try clear hcz15_1
           try clear hcz15_2
           try clear hcz15_3
           try clear hcz15_4
           try clear hcz15_5
           try clear hcz15_6
           try clear hcz17_0
           try clear hcz17_1
           try clear hcz17_2
           try clear hcz17_3
           try clear hcz17_4
           try clear hcz26_0
           try clear hcz26_1
           try clear hcz31_0
           try clear hcz31_1
           try clear hcz31_2
           try clear hcz31_3
           try clear hcz31_4
           try clear hcz39_0
           try clear hcz39_1
           try clear hcz43_0
           try clear hcz43_1
           try clear hcz43_2
           try clear hcz43_3
           try clear hcz43_4
           try clear hcz45_0
           try clear hcz45_1
           try clear hcz45_2
           try clear hcz45_3
           try clear hcz45_4
           try clear hfz11_0
           try clear hfz11_1
           try clear hfz11_2
           try clear hfz11_3
           try clear hfz11_4
           try clear hfz15_0
           try clear hfz15_1
           try clear hfz15_2
           try clear hfz15_3
           try clear hfz15_4
           try clear hfz15_5
           try clear hfz15_6
           try clear hfz17_0
           try clear hfz17_1
           try clear hfz17_2
           try clear hfz17_3
           try clear hfz17_4
           try clear hfz26_0
           try clear hfz26_1
           try clear hfz31_0
           try clear hfz31_1
           try clear hfz31_2
           try clear hfz31_3
           try clear hfz31_4
           try clear hfz39_0
           try clear hfz39_1
           try clear hfz43_0
           try clear hfz43_1
           try clear hfz43_2
           try clear hfz43_3
           try clear hfz43_4
           try clear hfz45_0
           try clear hfz45_1
           try clear hfz45_2
           try clear hfz45_3
           try clear hfz45_4
           try clear hx104_0
           try clear hx104_1
           try clear hx112_0
           try clear hx112_1
           try clear p1
           try clear p10
           try clear p104
           try clear p112
           try clear p2
           try clear p6
           try clear q1
           try clear q10
           try clear q104
           try clear q112
           obtain ⟨x9_4, x73_4, rfl, HA, HK4, HO_9, HO_15, BK101, BK102, HB⟩ := hrel
           cases gk with
           | zero => exact absurd HA.out (by simp [block_Encode.l2])
           | succ k4 =>
            have H := HA.out
            clear HA
            simp only [block_Encode.l2] at H
            by_cases c46 : x73_4 < (l0_0.length : Int)
            ·
             rw [if_pos c46] at H
             have c46b0 : decide (x73_4 < (l0_0.length : Int)) = true := decide_eq_true c46
             clear c46
             by_cases c47 : 0 ≤ x73_4
             ·
              rw [if_pos c47] at H
              have c47b0 : decide (0 ≤ x73_4) = true := decide_eq_true c47
              clear c47
              by_cases c48 : x73_4 < (l0_0.length : Int)
              ·
               rw [if_pos c48] at H
               have c48b0 : decide (x73_4 < (l0_0.length : Int)) = true := decide_eq_true c48
               clear c48
               replace H := Option.bind_eq_some_iff.mp H
               obtain ⟨t123, A490, H⟩ := H
               replace H : ((block_truths.f (([(rd_T56 l0_0 x73_4).f1] : List Bool))).bind fun t129 => (if x73_4 ≤ (wrap64 (x73_4 + 1)) then (if (wrap64 (x73_4 + 1)) ≤ (t118.length : Int) then ((slices_Concat_byte_byte.f (([x9_4, t123, t129, ((t118.take ((wrap64 (x73_4 + 1)) : Int).toNat).drop (x73_4 : Int).toNat)] : List (List Int)))).bind fun t140 => (block_Encode.l2 k4 a1 a2 t140 t117 t118 l0_0 (l0_0.length : Int) (wrap64 (x73_4 + 1)) l0_0 l0_1 l0_2 l0_3 l0_4)) else (none)) else (none))) = some (r1, r2, r3, r4, r5, r6, r7, r8, r9) := H
               have A49 := Aside0.mk A490
               clear A490
               obtain ⟨y126, hy126⟩ : ∃ y_ : List Bool, y_ = (([(rd_T56 l0_0 x73_4).f1] : List Bool)) := ⟨_, rfl⟩
               replace H : ((block_truths.f y126).bind fun t129 => (if x73_4 ≤ (wrap64 (x73_4 + 1)) then (if (wrap64 (x73_4 + 1)) ≤ (t118.length : Int) then ((slices_Concat_byte_byte.f (([x9_4, t123, t129, ((t118.take ((wrap64 (x73_4 + 1)) : Int).toNat).drop (x73_4 : Int).toNat)] : List (List Int)))).bind fun t140 => (block_Encode.l2 k4 a1 a2 t140 t117 t118 l0_0 (l0_0.length : Int) (wrap64 (x73_4 + 1)) l0_0 l0_1 l0_2 l0_3 l0_4)) else (none)) else (none))) = some (r1, r2, r3, r4, r5, r6, r7, r8, r9) := by first | (rw [hy126]; with_reducible exact H) | (have H2_ := (Option.bind_some _ _).symm.trans H; rw [hy126]; with_reducible exact H2_) | (have H2_ := (Option.bind_some _ _).symm.trans H; with_reducible exact H2_) | with_reducible exact H | (rw [hy126]; exact H) | exact H
               have Ny126 := Aside0.mk hy126
               clear hy126
               replace H := Option.bind_eq_some_iff.mp H
               obtain ⟨t129, A500, H⟩ := H
               replace H : (if x73_4 ≤ (wrap64 (x73_4 + 1)) then (if (wrap64 (x73_4 + 1)) ≤ (t118.length : Int) then ((slices_Concat_byte_byte.f (([x9_4, t123, t129, ((t118.take ((wrap64 (x73_4 + 1)) : Int).toNat).drop (x73_4 : Int).toNat)] : List (List Int)))).bind fun t140 => (block_Encode.l2 k4 a1 a2 t140 t117 t118 l0_0 (l0_0.length : Int) (wrap64 (x73_4 + 1)) l0_0 l0_1 l0_2 l0_3 l0_4)) else (none)) else (none)) = some (r1, r2, r3, r4, r5, r6, r7, r8, r9) := H
               have A50 := Aside0.mk A500
               clear A500
               have c51b0 := eq_true (of_decide_eq_true (by first | (with_reducible assumption) | assumption) : 0 ≤ x73_4)
               by_cases c52 : x73_4 ≤ (wrap64 (x73_4 + 1))
               ·
                rw [if_pos c52] at H
                have c52b0 := eq_true c52
                have c52b1 : decide (x73_4 ≤ (wrap64 (x73_4 + 1))) = true := decide_eq_true c52
                by_cases c53 : (wrap64 (x73_4 + 1)) ≤ (t118.length : Int)
                ·
                 rw [if_pos c53] at H
                 have c53b0 := eq_true c53
                 have c53b1 : decide ((wrap64 (x73_4 + 1)) ≤ (t118.length : Int)) = true := decide_eq_true c53
                 obtain ⟨y132, hy132⟩ : ∃ y_ : List Int, y_ = ((t118.take ((wrap64 (x73_4 + 1)) : Int).toNat).drop (x73_4 : Int).toNat) := ⟨_, rfl⟩
                 replace H : ((slices_Concat_byte_byte.f (([x9_4, t123, t129, y132] : List (List Int)))).bind fun t140 => (block_Encode.l2 k4 a1 a2 t140 t117 t118 l0_0 (l0_0.length : Int) (wrap64 (x73_4 + 1)) l0_0 l0_1 l0_2 l0_3 l0_4)) = some (r1, r2, r3, r4, r5, r6, r7, r8, r9) := by first | (rw [hy132]; with_reducible exact H) | (have H2_ := (Option.bind_some _ _).symm.trans H; rw [hy132]; with_reducible exact H2_) | (have H2_ := (Option.bind_some _ _).symm.trans H; with_reducible exact H2_) | with_reducible exact H | (rw [hy132]; exact H) | exact H
                 have Ny132 := Aside0.mk hy132
                 clear hy132
                 obtain ⟨y137, hy137⟩ : ∃ y_ : List (List Int), y_ = (([x9_4, t123, t129, y132] : List (List Int))) := ⟨_, rfl⟩
                 replace H : ((slices_Concat_byte_byte.f y137).bind fun t140 => (block_Encode.l2 k4 a1 a2 t140 t117 t118 l0_0 (l0_0.length : Int) (wrap64 (x73_4 + 1)) l0_0 l0_1 l0_2 l0_3 l0_4)) = some (r1, r2, r3, r4, r5, r6, r7, r8, r9) := by first | (rw [hy137]; with_reducible exact H) | (have H2_ := (Option.bind_some _ _).symm.trans H; rw [hy137]; with_reducible exact H2_) | (have H2_ := (Option.bind_some _ _).symm.trans H; with_reducible exact H2_) | with_reducible exact H | (rw [hy137]; exact H) | exact H
                 have Ny137 := Aside0.mk hy137
                 clear hy137
                 replace H := Option.bind_eq_some_iff.mp H
                 obtain ⟨t140, A540, H⟩ := H
                 replace H : (block_Encode.l2 k4 a1 a2 t140 t117 t118 l0_0 (l0_0.length : Int) (wrap64 (x73_4 + 1)) l0_0 l0_1 l0_2 l0_3 l0_4) = some (r1, r2, r3, r4, r5, r6, r7, r8, r9) := H
                 have A54 := Aside0.mk A540
                 clear A540
                 have H' := Aside0.mk H
                 clear H
                 have p121 : 0 ≤ (x73_4 : Int) := of_decide_eq_true (by first | (with_reducible assumption) | assumption)
                 have q121 : x73_4 < (l0_0.length : Int) := of_decide_eq_true (by first | (with_reducible assumption) | assumption)
                 obtain ⟨ad121, e121, hx121_0, hx121_1, hx121_2⟩ := at_T56 HR0_0.out x73_4 p121 q121
                 cases e121
                 replace hx121_0 := (HB.out.cell (World.block_lt_of_cell? w _ hx121_0)).trans hx121_0
                 replace hx121_1 := (HB.out.cell (World.block_lt_of_cell? w _ hx121_1)).trans hx121_1
                 replace hx121_2 := (HB.out.cell (World.block_lt_of_cell? w _ hx121_2)).trans hx121_2
                 replace p121 := eq_true p121
                 replace q121 := eq_true q121
                 try go_wp2_with (first | ((with_reducible refine gate_dst (N := 17) rfl ?_); refine box_event ?hg (N := 17) ?hd (cs := #[.int .i64 0, .bool false, .string (⟨#[]⟩ : ByteArray)]) (t := 56) ?hr ?_; (case hd => rfl); (case hg => rfl); (case hr => first | (go_simp; done) | (go_simp; rfl)); intro gb122 hg w55 hbox hb; have n0_ := Aside0.mk (Kd.R_below (by (with_reducible repeat (first | apply Kd.R_alloc | apply Kd.R_drewN | apply Kd.R_drew)); exact HO_9.out) hb); have n1_ := Aside0.mk (Kd.R_below (by (with_reducible repeat (first | apply Kd.R_alloc | apply Kd.R_drewN | apply Kd.R_drew)); exact HO_15.out) hb); have n2_ := Aside0.mk (blk_below (g := gb101) (o := .cells #[.slice (some ad121) l0_0.length c0_0, .slice A0_1 l0_1.length c0_1, .slice A0_2 l0_2.length c0_2, .slice A0_3 l0_3.length c0_3, .slice A0_4 l0_4.length c0_4] 27 (0, 0)) (by (with_reducible repeat (first | refine blk_drewN ?_ _ | refine blk_drew ?_ | refine blk_alloc ?_ _)); exact BK101.out) hb); have n3_ := Aside0.mk (blk_below (g := gb102) (o := .cells #[.int .i64 0, .int .i64 0, .int .i64 0, .int .i64 0, .int .i64 0, .int .i64 0, .int .i64 0] 35 (0, 0)) (by (with_reducible repeat (first | refine blk_drewN ?_ _ | refine blk_drew ?_ | refine blk_alloc ?_ _)); exact BK102.out) hb); have n4_ := Aside0.mk (below_step (by repeat (first | (with_reducible first | exact HB.out | apply below_alloc | apply pw_below_drewN | apply below_drew1 | refine below_set ?_ GE101.out | refine below_set ?_ GE102.out) | exact HB.out)) hb); have n5_ := Aside0.mk (hbox); have n6_ := Aside0.mk ((by rw [hg]; exact (below_size (by repeat (first | (with_reducible first | exact HB.out | apply below_alloc | apply pw_below_drewN | apply below_drew1 | refine below_set ?_ GE101.out | refine below_set ?_ GE102.out) | exact HB.out))) : w.heap.size ≤ gb122)); have n7_ := Aside0.mk ((by rw [hg]; exact (below_size (by repeat (first | (with_reducible first | exact HB.out | apply below_alloc | apply pw_below_drewN | apply below_drew1 | refine below_set ?_ GE101.out | refine below_set ?_ GE102.out) | exact HB.out))) : w.heap.size ≤ gb122)); have n8_ := Aside0.mk ((by rw [hg]; exact Nat.ne_of_lt (blk_lt (g := gb101) (o := .cells #[.slice (some ad121) l0_0.length c0_0, .slice A0_1 l0_1.length c0_1, .slice A0_2 l0_2.length c0_2, .slice A0_3 l0_3.length c0_3, .slice A0_4 l0_4.length c0_4] 27 (0, 0)) (by (with_reducible repeat (first | refine blk_drewN ?_ _ | refine blk_drew ?_ | refine blk_alloc ?_ _)); exact BK101.out)) : gb101 ≠ gb122)); have n9_ := Aside0.mk ((by rw [hg]; exact Nat.ne_of_gt (blk_lt (g := gb101) (o := .cells #[.slice (some ad121) l0_0.length c0_0, .slice A0_1 l0_1.length c0_1, .slice A0_2 l0_2.length c0_2, .slice A0_3 l0_3.length c0_3, .slice A0_4 l0_4.length c0_4] 27 (0, 0)) (by (with_reducible repeat (first | refine blk_drewN ?_ _ | refine blk_drew ?_ | refine blk_alloc ?_ _)); exact BK101.out)) : gb122 ≠ gb101)); have n10_ := Aside0.mk ((by rw [hg]; exact Nat.ne_of_lt (blk_lt (g := gb102) (o := .cells #[.int .i64 0, .int .i64 0, .int .i64 0, .int .i64 0, .int .i64 0, .int .i64 0, .int .i64 0] 35 (0, 0)) (by (with_reducible repeat (first | refine blk_drewN ?_ _ | refine blk_drew ?_ | refine blk_alloc ?_ _)); exact BK102.out)) : gb102 ≠ gb122)); have n11_ := Aside0.mk ((by rw [hg]; exact Nat.ne_of_gt (blk_lt (g := gb102) (o := .cells #[.int .i64 0, .int .i64 0, .int .i64 0, .int .i64 0, .int .i64 0, .int .i64 0, .int .i64 0] 35 (0, 0)) (by (with_reducible repeat (first | refine blk_drewN ?_ _ | refine blk_drew ?_ | refine blk_alloc ?_ _)); exact BK102.out)) : gb122 ≠ gb102)); clear HO_9; clear HO_15; clear BK101; clear BK102; clear HB; have HO_9 := n0_; have HO_15 := n1_; have BK101 := n2_; have BK102 := n3_; have HB := n4_; have BK122 := n5_; have GW122 := n6_; have GE122 := n7_; have NB101_122 := n8_; have NB122_101 := n9_; have NB102_122 := n10_; have NB122_102 := n11_; clear n0_ n1_ n2_ n3_ n4_ n5_ n6_ n7_ n8_ n9_ n10_ n11_; clear hb hbox hg; have hnb56 := NB122_101.out; have hnc56 := NB101_122.out; have hnb57 := NB122_102.out; have hnc57 := NB102_122.out; have hcz58_0 : w55.cell? ⟨gb122, 0, none⟩ = some (.int .i64 0) := (blk_cell BK122.out 0).trans rfl; have hcz58_1 : w55.cell? ⟨gb122, 1, none⟩ = some (.bool false) := (blk_cell BK122.out 1).trans rfl; have hcz58_2 : w55.cell? ⟨gb122, 2, none⟩ = some (.string (⟨#[]⟩ : ByteArray)) := (blk_cell BK122.out 2).trans rfl; have hfz58_0 := blk_frozen BK122.out 0; have hfz58_1 := blk_frozen BK122.out 1; have hfz58_2 := blk_frozen BK122.out 2))
                 have n0_ : Aside0 (Kd.R (Kd.int .u8) 5 (((w55.setCell ⟨gb122, 0, none⟩ (.int .i64 ((rd_T56 l0_0 x73_4).f0))).setCell ⟨gb122, 1, none⟩ (.bool ((rd_T56 l0_0 x73_4).f1))).setCell ⟨gb122, 2, none⟩ (.string ((rd_T56 l0_0 x73_4).f2))) w.heap.size (fun k_ => some k_ ≠ (v119 : Value).ownBlock) u9 x9_4) := ⟨by (with_reducible repeat (first | apply Kd.R_alloc | apply Kd.R_drewN | apply Kd.R_drew)); exact Kd.R_mono (Kd.R_far (p := ⟨gb122, 2, none⟩) (Kd.R_far (p := ⟨gb122, 1, none⟩) (Kd.R_far (p := ⟨gb122, 0, none⟩) (Kd.R_types HO_9.out BK122.out (by decide)) (fun _ hk => hk.2) (.int .i64 ((rd_T56 l0_0 x73_4).f0))) (fun _ hk => hk.2) (.bool ((rd_T56 l0_0 x73_4).f1))) (fun _ hk => hk.2) (.string ((rd_T56 l0_0 x73_4).f2))) (fun _ hk => hk.1)⟩
                 have n1_ : Aside0 (Kd.R (Kd.int .u8) 5 (((w55.setCell ⟨gb122, 0, none⟩ (.int .i64 ((rd_T56 l0_0 x73_4).f0))).setCell ⟨gb122, 1, none⟩ (.bool ((rd_T56 l0_0 x73_4).f1))).setCell ⟨gb122, 2, none⟩ (.string ((rd_T56 l0_0 x73_4).f2))) w.heap.size (fun k_ => some k_ ≠ (u9 : Value).ownBlock) v119 t118) := ⟨by (with_reducible repeat (first | apply Kd.R_alloc | apply Kd.R_drewN | apply Kd.R_drew)); exact Kd.R_mono (Kd.R_far (p := ⟨gb122, 2, none⟩) (Kd.R_far (p := ⟨gb122, 1, none⟩) (Kd.R_far (p := ⟨gb122, 0, none⟩) (Kd.R_types HO_15.out BK122.out (by decide)) (fun _ hk => hk.2) (.int .i64 ((rd_T56 l0_0 x73_4).f0))) (fun _ hk => hk.2) (.bool ((rd_T56 l0_0 x73_4).f1))) (fun _ hk => hk.2) (.string ((rd_T56 l0_0 x73_4).f2))) (fun _ hk => hk.1)⟩
                 have n2_ : Aside0 ((((w55.setCell ⟨gb122, 0, none⟩ (.int .i64 ((rd_T56 l0_0 x73_4).f0))).setCell ⟨gb122, 1, none⟩ (.bool ((rd_T56 l0_0 x73_4).f1))).setCell ⟨gb122, 2, none⟩ (.string ((rd_T56 l0_0 x73_4).f2))).heap[gb101]? = some (.cells #[.slice (some ad121) l0_0.length c0_0, .slice A0_1 l0_1.length c0_1, .slice A0_2 l0_2.length c0_2, .slice A0_3 l0_3.length c0_3, .slice A0_4 l0_4.length c0_4] 27 (0, 0))) := ⟨by (with_reducible repeat (first | refine blk_drewN ?_ _ | refine blk_drew ?_ | refine blk_alloc ?_ _)); refine blk_far ?_ NB101_122.out _; (with_reducible repeat (first | refine blk_drewN ?_ _ | refine blk_drew ?_ | refine blk_alloc ?_ _)); refine blk_far ?_ NB101_122.out _; (with_reducible repeat (first | refine blk_drewN ?_ _ | refine blk_drew ?_ | refine blk_alloc ?_ _)); refine blk_far ?_ NB101_122.out _; (with_reducible repeat (first | refine blk_drewN ?_ _ | refine blk_drew ?_ | refine blk_alloc ?_ _)); exact BK101.out⟩
                 have n3_ : Aside0 ((((w55.setCell ⟨gb122, 0, none⟩ (.int .i64 ((rd_T56 l0_0 x73_4).f0))).setCell ⟨gb122, 1, none⟩ (.bool ((rd_T56 l0_0 x73_4).f1))).setCell ⟨gb122, 2, none⟩ (.string ((rd_T56 l0_0 x73_4).f2))).heap[gb102]? = some (.cells #[.int .i64 0, .int .i64 0, .int .i64 0, .int .i64 0, .int .i64 0, .int .i64 0, .int .i64 0] 35 (0, 0))) := ⟨by (with_reducible repeat (first | refine blk_drewN ?_ _ | refine blk_drew ?_ | refine blk_alloc ?_ _)); refine blk_far ?_ NB102_122.out _; (with_reducible repeat (first | refine blk_drewN ?_ _ | refine blk_drew ?_ | refine blk_alloc ?_ _)); refine blk_far ?_ NB102_122.out _; (with_reducible repeat (first | refine blk_drewN ?_ _ | refine blk_drew ?_ | refine blk_alloc ?_ _)); refine blk_far ?_ NB102_122.out _; (with_reducible repeat (first | refine blk_drewN ?_ _ | refine blk_drew ?_ | refine blk_alloc ?_ _)); exact BK102.out⟩
                 have n4_ : Aside0 ((((w55.setCell ⟨gb122, 0, none⟩ (.int .i64 ((rd_T56 l0_0 x73_4).f0))).setCell ⟨gb122, 1, none⟩ (.bool ((rd_T56 l0_0 x73_4).f1))).setCell ⟨gb122, 2, none⟩ (.string ((rd_T56 l0_0 x73_4).f2))).heap[gb122]? = some (.cells #[.int .i64 ((rd_T56 l0_0 x73_4).f0), .bool ((rd_T56 l0_0 x73_4).f1), .string ((rd_T56 l0_0 x73_4).f2)] 56 (0, 0))) := ⟨by (with_reducible repeat (first | refine blk_drewN ?_ _ | refine blk_drew ?_ | refine blk_alloc ?_ _)); refine blk_put (cs := #[.int .i64 ((rd_T56 l0_0 x73_4).f0), .bool ((rd_T56 l0_0 x73_4).f1), .string (⟨#[]⟩ : ByteArray)]) ?_ 2 _ rfl; (with_reducible repeat (first | refine blk_drewN ?_ _ | refine blk_drew ?_ | refine blk_alloc ?_ _)); refine blk_put (cs := #[.int .i64 ((rd_T56 l0_0 x73_4).f0), .bool false, .string (⟨#[]⟩ : ByteArray)]) ?_ 1 _ rfl; (with_reducible repeat (first | refine blk_drewN ?_ _ | refine blk_drew ?_ | refine blk_alloc ?_ _)); refine blk_put (cs := #[.int .i64 0, .bool false, .string (⟨#[]⟩ : ByteArray)]) ?_ 0 _ rfl; (with_reducible repeat (first | refine blk_drewN ?_ _ | refine blk_drew ?_ | refine blk_alloc ?_ _)); exact BK122.out⟩
                 have n5_ : Aside0 (Below w.heap.size w (((w55.setCell ⟨gb122, 0, none⟩ (.int .i64 ((rd_T56 l0_0 x73_4).f0))).setCell ⟨gb122, 1, none⟩ (.bool ((rd_T56 l0_0 x73_4).f1))).setCell ⟨gb122, 2, none⟩ (.string ((rd_T56 l0_0 x73_4).f2)))) := ⟨by repeat (first | (with_reducible first | exact HB.out | apply below_alloc | apply pw_below_drewN | apply below_drew1 | refine below_set ?_ GE101.out | refine below_set ?_ GE102.out | refine below_set ?_ GE122.out) | exact HB.out)⟩
                 (try clear HO_9)
                 (try clear HO_15)
                 (try clear BK101)
                 (try clear BK102)
                 (try clear BK122)
                 (try clear HB)
                 generalize (((w55.setCell ⟨gb122, 0, none⟩ (.int .i64 ((rd_T56 l0_0 x73_4).f0))).setCell ⟨gb122, 1, none⟩ (.bool ((rd_T56 l0_0 x73_4).f1))).setCell ⟨gb122, 2, none⟩ (.string ((rd_T56 l0_0 x73_4).f2))) = w59 at n0_ n1_ n2_ n3_ n4_ n5_ ⊢
                 have HO_9 := n0_
                 have HO_15 := n1_
                 have BK101 := n2_
                 have BK102 := n3_
                 have BK122 := n4_
                 have HB := n5_
                 clear n0_ n1_ n2_ n3_ n4_ n5_
                 have n0_ := Aside0.mk (Kd.R_drew HO_9.out)
                 have n1_ := Aside0.mk (Kd.R_drew HO_15.out)
                 have n2_ := Aside0.mk (blk_drew BK101.out)
                 have n3_ := Aside0.mk (blk_drew BK102.out)
                 have n4_ := Aside0.mk (blk_drew BK122.out)
                 have n5_ := Aside0.mk (below_drew1 HB.out)
                 clear HO_9
                 clear HO_15
                 clear BK101
                 clear BK102
                 clear BK122
                 clear HB
                 have HO_9 := n0_
                 have HO_15 := n1_
                 have BK101 := n2_
                 have BK102 := n3_
                 have BK122 := n4_
                 have HB := n5_
                 clear n0_ n1_ n2_ n3_ n4_ n5_
                 obtain ⟨Ao62, co62, eo62⟩ := Kd.R_slice HO_15.out
                 (first | subst eo62 | (injection eo62 with f1_ f2_ f3_; have f4_ := f1_.symm; have f5_ := f3_.symm; clear f1_ f2_ f3_; subst f4_; subst f5_))
                 have q61 : ((wrap64 (x73_4 + 1)) : Int) ≤ ((t118.length : Int) : Int) := of_decide_eq_true (by first | (with_reducible assumption) | assumption)
                 obtain ⟨i061, hi061, _, hsz61, _⟩ := info_parts info5
                 have hroom61 : t118.length ≤ co62 := (Kd.R_reads' HO_15.out).2.1
                 have hC61 : Kd.F (Kd.int .u8) _ _ Ao62 t118.length t118 := (Kd.V_at (base := w.heap.size) (Kd.R_V (Kd.R_types (Kd.R_types (Kd.R_types (HO_15.out) BK101.out (by decide)) BK102.out (by decide)) BK122.out (by decide)))).2.2
                 have ql61 : (x73_4 : Int) ≤ ((wrap64 (x73_4 + 1)) : Int) := of_decide_eq_true (by first | (with_reducible assumption) | assumption)
                 have q061 : (0 : Int) ≤ (x73_4 : Int) := of_decide_eq_true (by first | (with_reducible assumption) | assumption)
                 have hcut61 := cut_mid (P := Try.prog) 33 5 .i64 .i64 Try.underlying33 hi061 1 hsz61 Ao62 t118.length co62 x73_4 (wrap64 (x73_4 + 1)) q061 ql61 q61 hroom61
                 have hr61 := Kd.F_mid (lo := (x73_4 : Int).toNat) (hi := ((wrap64 (x73_4 + 1)) : Int).toNat) (c := co62) hC61 (by omega) (by omega) hroom61
                 obtain ⟨A61, hA61⟩ : ∃ A1, A1 = (if co62 = (x73_4 : Int).toNat then Ao62 else (Ao62 : Option Addr).map (·.add ((x73_4 : Int).toNat * 1))) := ⟨_, rfl⟩
                 obtain ⟨c61, hc61⟩ : ∃ c1, c1 = co62 - (x73_4 : Int).toNat := ⟨_, rfl⟩
                 have hy61 : y132.length = ((wrap64 (x73_4 + 1)) : Int).toNat - (x73_4 : Int).toNat := (by rw [Ny132.out, List.length_drop, List.length_take] <;> omega)
                 rw [show ((t118).take ((wrap64 (x73_4 + 1)) : Int).toNat).drop (x73_4 : Int).toNat = y132 from Ny132.out.symm] at hr61
                 replace hr61 : Kd.F (Kd.int .u8) _ _ A61 y132.length y132 := (by rw [hA61]; exact hr61)
                 rw [← hy61, ← hA61, ← hc61] at hcut61
                 have HO136 := Aside0.mk (show Kd.V (Kd.int .u8) 5 _ w.heap.size _ (.slice A61 y132.length c61) y132 from Kd.V_mk (by rw [hy61, hc61]; exact Nat.sub_le_sub_right (Nat.le_trans (by omega) hroom61) _) hr61)
                 have HC136 := Aside0.mk (show y132.length ≤ c61 from by rw [hy61, hc61]; exact Nat.sub_le_sub_right (Nat.le_trans (by omega) hroom61) _)
                 clear hr61 hC61 hroom61 hi061 hsz61 hc61
                 have KY61 := Aside0.mk hy61
                 have KA61 := Aside0.mk hA61
                 clear hy61 hA61
                 replace q61 := eq_true q61
                 refine start_ (n := 17) (S := fun w' => w'.cell? ⟨gb122, 0, none⟩ = some (.int .i64 ((rd_T56 l0_0 x73_4).f0)) ∧ w'.cell? ⟨gb122, 1, none⟩ = some (.bool ((rd_T56 l0_0 x73_4).f1)) ∧ w'.cell? ⟨gb122, 2, none⟩ = some (.string ((rd_T56 l0_0 x73_4).f2))) (ds := []) #[false, false, false, false, false, false, false, false, false, false, false, false, false, false, false, false, false] (by kernel_rfl) rfl rfl ⟨(blk_cell BK122.out 0).trans rfl, (blk_cell BK122.out 1).trans rfl, (blk_cell BK122.out 2).trans rfl⟩ (fun hHeld => ?_); refine with_tabW block_Encode.tab18 block_Encode.bits18 (fun HT_ HW_ => ?_)
                 generalize w59.drew = w60 at HO_9 HO_15 BK101 BK102 BK122 HB HO136 hHeld ⊢
                 refine pure_ (i := 0) (N := some 78) (v := ?_) (a' := ?_) #[true, false, false, false, false, false, false, false, false, false, false, false, false, false, false, false, false] rfl rfl (any_of HT_.out (by kernel_rfl)) (fun _ _ _ h => h) (Or.inl ⟨by rfl, ?_⟩) ?_ ?_
                 rotate_left
                 ·
                  intro w'
                  go_simp
                  with_reducible rfl
                 rotate_left
                 ·
                  simp only [Act.put, List.setIfInBounds_toArray, List.set_cons_zero, List.set_cons_succ, i64_w, i32_w]
                  rfl
                 refine pure_ (i := 1) (N := some 79) (v := ?_) (a' := ?_) #[true, true, false, false, false, false, false, false, false, false, false, false, false, false, false, false, false] rfl rfl (any_of HT_.out (by kernel_rfl)) (fun _ _ _ h => h) (Or.inl ⟨by rfl, ?_⟩) ?_ ?_
                 rotate_left
                 ·
                  intro w'
                  go_simp
                  with_reducible rfl
                 rotate_left
                 ·
                  simp only [Act.put, List.setIfInBounds_toArray, List.set_cons_zero, List.set_cons_succ, i64_w, i32_w]
                  rfl
                 refine pure_ (i := 5) (N := some 83) (v := ?_) (a' := ?_) #[true, true, false, false, false, true, false, false, false, false, false, false, false, false, false, false, false] rfl rfl (any_of HT_.out (by kernel_rfl)) (fun _ _ _ h => h) (Or.inl ⟨by rfl, ?_⟩) ?_ ?_
                 rotate_left
                 ·
                  intro w'
                  go_simp
                  with_reducible rfl
                 rotate_left
                 ·
                  simp only [Act.put, List.setIfInBounds_toArray, List.set_cons_zero, List.set_cons_succ, i64_w, i32_w]
                  rfl
                 refine pure_ (i := 9) (N := some 87) (v := ?_) (a' := ?_) #[true, true, false, false, false, true, false, false, false, true, false, false, false, false, false, false, false] rfl rfl (any_of HT_.out (by kernel_rfl)) (fun _ _ _ h => h) (Or.inl ⟨by rfl, ?_⟩) ?_ ?_
                 rotate_left
                 ·
                  intro w'
                  go_simp
                  with_reducible rfl
                 rotate_left
                 ·
                  simp only [Act.put, List.setIfInBounds_toArray, List.set_cons_zero, List.set_cons_succ, i64_w, i32_w]
                  rfl
                 refine pure_ (i := 10) (N := some 88) (v := ?_) (a' := ?_) #[true, true, false, false, false, true, false, false, false, true, true, false, false, false, false, false, false] rfl rfl (any_of HT_.out (by kernel_rfl)) (fun _ _ _ h => h) (Or.inl ⟨by rfl, ?_⟩) ?_ ?_
                 rotate_left
                 ·
                  intro w'
                  go_simp
                  with_reducible rfl
                 rotate_left
                 ·
                  simp only [Act.put, List.setIfInBounds_toArray, List.set_cons_zero, List.set_cons_succ, i64_w, i32_w]
                  rfl
                 refine pure_ (i := 11) (N := some 89) (v := ?_) (a' := ?_) #[true, true, false, false, false, true, false, false, false, true, true, true, false, false, false, false, false] rfl rfl (any_of HT_.out (by kernel_rfl)) (fun _ _ _ h => h) (Or.inl ⟨by rfl, ?_⟩) ?_ ?_
                 rotate_left
                 ·
                  intro w'
                  go_simp
                  with_reducible rfl
                 rotate_left
                 ·
                  simp only [Act.put, List.setIfInBounds_toArray, List.set_cons_zero, List.set_cons_succ, i64_w, i32_w]
                  rfl
                 refine pure_ (i := 12) (N := some 90) (v := ?_) (a' := ?_) #[true, true, false, false, false, true, false, false, false, true, true, true, true, false, false, false, false] rfl rfl (any_of HT_.out (by kernel_rfl)) (fun _ _ _ h => h) (Or.inl ⟨by rfl, ?_⟩) ?_ ?_
                 rotate_left
                 ·
                  intro w'
                  go_simp
                  with_reducible rfl
                 rotate_left
                 ·
                  simp only [Act.put, List.setIfInBounds_toArray, List.set_cons_zero, List.set_cons_succ, i64_w, i32_w]
                  rfl
                 refine pure_ (i := 13) (N := some 91) (v := ?_) (a' := ?_) #[true, true, false, false, false, true, false, false, false, true, true, true, true, true, false, false, false] rfl rfl (any_of HT_.out (by kernel_rfl)) (fun _ _ _ h => h) (Or.inl ⟨by rfl, ?_⟩) ?_ ?_
                 rotate_left
                 ·
                  intro w'
                  go_simp
                  with_reducible rfl
                 rotate_left
                 ·
                  simp only [Act.put, List.setIfInBounds_toArray, List.set_cons_zero, List.set_cons_succ, i64_w, i32_w]
                  rfl
                 refine take_ (i := 2) (N := some 80) (v := ?_) (a' := ?_) #[true, true, true, false, false, true, false, false, false, true, true, true, true, true, false, false, false] rfl rfl (take_ofW HT_.out HW_.out (by kernel_rfl)) (fun _ _ _ h => h) (Or.inl ⟨by rfl, ?_⟩) hHeld ?_ ?_
                 rotate_left
                 ·
                  rintro w' ⟨s0, s1, s2⟩
                  go_simp
                  with_reducible rfl
                 rotate_left
                 ·
                  simp only [Act.put, List.setIfInBounds_toArray, List.set_cons_zero, List.set_cons_succ, i64_w, i32_w]
                  rfl
                 refine pure_ (i := 3) (N := some 81) (v := ?_) (a' := ?_) #[true, true, true, true, false, true, false, false, false, true, true, true, true, true, false, false, false] rfl rfl (any_of HT_.out (by kernel_rfl)) (fun _ _ _ h => h) (Or.inl ⟨by rfl, ?_⟩) ?_ ?_
                 rotate_left
                 ·
                  intro w'
                  go_simp
                  with_reducible rfl
                 rotate_left
                 ·
                  simp only [Act.put, List.setIfInBounds_toArray, List.set_cons_zero, List.set_cons_succ, i64_w, i32_w]
                  rfl
                 refine take_ (i := 6) (N := some 84) (v := ?_) (a' := ?_) #[true, true, true, true, false, true, true, false, false, true, true, true, true, true, false, false, false] rfl rfl (take_ofW HT_.out HW_.out (by kernel_rfl)) (fun _ _ _ h => h) (Or.inl ⟨by rfl, ?_⟩) hHeld ?_ ?_
                 rotate_left
                 ·
                  rintro w' ⟨s0, s1, s2⟩
                  go_simp
                  with_reducible rfl
                 rotate_left
                 ·
                  simp only [Act.put, List.setIfInBounds_toArray, List.set_cons_zero, List.set_cons_succ, i64_w, i32_w]
                  rfl
                 refine join_ (σ := Value × Value) 4 #[true, true, true, true, true, true, true, true, false, true, true, true, true, true, false, false, false] (fun s_ => [(82, s_.1), (85, s_.2)]) (fun s_ w' => (w'.cell? ⟨gb122, 0, none⟩ = some (.int .i64 ((rd_T56 l0_0 x73_4).f0)) ∧ w'.cell? ⟨gb122, 1, none⟩ = some (.bool ((rd_T56 l0_0 x73_4).f1)) ∧ w'.cell? ⟨gb122, 2, none⟩ = some (.string ((rd_T56 l0_0 x73_4).f2))) ∧ (Kd.R (Kd.int .u8) 5 w' w.heap.size (fun k_ => some k_ ≠ (.slice Ao62 t118.length co62 : Value).ownBlock ∧ some k_ ≠ (u9 : Value).ownBlock) s_.1 t123) ∧ (Kd.R Kd.bool 4 w' w.heap.size (fun _ => True) s_.2 y126) ∧ (Kd.V (Kd.int .u8) 5 w' w.heap.size (fun k_ => some k_ ≠ (s_.1 : Value).ownBlock ∧ some k_ ≠ (s_.2 : Value).ownBlock ∧ some k_ ≠ (u9 : Value).ownBlock ∧ k_ ≠ gb101 ∧ k_ ≠ gb102 ∧ k_ ≠ gb122) (.slice A61 y132.length c61) y132) ∧ (Kd.R (Kd.int .u8) 5 w' w.heap.size (fun k_ => some k_ ≠ (s_.1 : Value).ownBlock ∧ some k_ ≠ (u9 : Value).ownBlock) (.slice Ao62 t118.length co62) t118) ∧ (Kd.R (Kd.int .u8) 5 w' w.heap.size (fun k_ => some k_ ≠ (s_.1 : Value).ownBlock ∧ some k_ ≠ (.slice Ao62 t118.length co62 : Value).ownBlock) u9 x9_4) ∧ (w'.heap[gb101]? = some (.cells #[.slice (some ad121) l0_0.length c0_0, .slice A0_1 l0_1.length c0_1, .slice A0_2 l0_2.length c0_2, .slice A0_3 l0_3.length c0_3, .slice A0_4 l0_4.length c0_4] 27 (0, 0))) ∧ (w'.heap[gb102]? = some (.cells #[.int .i64 0, .int .i64 0, .int .i64 0, .int .i64 0, .int .i64 0, .int .i64 0, .int .i64 0] 35 (0, 0))) ∧ (w'.heap[gb122]? = some (.cells #[.int .i64 ((rd_T56 l0_0 x73_4).f0), .bool ((rd_T56 l0_0 x73_4).f1), .string ((rd_T56 l0_0 x73_4).f2)] 56 (0, 0))) ∧ (Below w.heap.size w w')) ?_ ?_
                 rotate_left
                 ·
                  intro hCont
                  refine two_ (i := 4) (j := 7) (Ni := some 82) (Nj := some 85) #[true, true, true, true, true, true, true, false, false, true, true, true, true, true, false, false, false] #[true, true, true, true, false, true, true, true, false, true, true, true, true, true, false, false, false] rfl rfl rfl rfl (two_of HT_.out (by kernel_rfl)) (by decide) (by decide) (fun K hK => ?_) (fun K hK => ?_)
                  ·
                   skip
                   refine goes_ Try.func26 (by kernel_rfl) rfl #[.slice none 0 0, .int .i64 4, .int .u64 (IntKind.u64.wrap ((rd_T56 l0_0 x73_4).f0))] (by rfl) rfl rfl (by (try simp only [List.map_toArray, List.map_cons, List.map_nil]); first | done | rfl | (simp only [List.length_drop, List.length_take]; rfl)) ?_
                   refine (octets_Put.calls _ _ ([] : List Int) 4 (IntKind.u64.wrap ((rd_T56 l0_0 x73_4).f0)) t123 _ ?side1 ?side2 A49.out).mono ?_
                   (case side1 => exact Kd.C_nil _ _)
                   (case side2 => exact Nat.le_refl _)
                   rintro e w63 ⟨v124, rfl, ho0, hb⟩
                   refine ⟨_, rfl, ?_⟩
                   have n0_ := Aside0.mk (Kd.R_elder' (by (with_reducible repeat (first | apply Kd.R_alloc | apply Kd.R_drewN | apply Kd.R_drew)); exact HO_9.out) (Kd.R_base ho0) hb)
                   have n1_ := Aside0.mk (Kd.R_elder' (by (with_reducible repeat (first | apply Kd.R_alloc | apply Kd.R_drewN | apply Kd.R_drew)); exact HO_15.out) (Kd.R_base ho0) hb)
                   have n2_ := Aside0.mk (Kd.V_elder' (by (with_reducible repeat (first | apply Kd.V_alloc | apply Kd.V_drewN | apply Kd.V_drew)); exact HO136.out) (Kd.R_base ho0) hb)
                   have n3_ := Aside0.mk (Kd.R_lower (Kd.R_new' (Kd.R_new' ho0 (Kd.R_lt (by (with_reducible repeat (first | apply Kd.R_alloc | apply Kd.R_drewN | apply Kd.R_drew)); exact HO_9.out))) (Kd.R_lt (by (with_reducible repeat (first | apply Kd.R_alloc | apply Kd.R_drewN | apply Kd.R_drew)); exact HO_15.out))) (below_size (by repeat (first | (with_reducible first | exact HB.out | apply below_alloc | apply pw_below_drewN | apply below_drew1 | refine below_set ?_ GE101.out | refine below_set ?_ GE102.out | refine below_set ?_ GE122.out) | exact HB.out))))
                   have n4_ := Aside0.mk (blk_below (g := gb101) (o := .cells #[.slice (some ad121) l0_0.length c0_0, .slice A0_1 l0_1.length c0_1, .slice A0_2 l0_2.length c0_2, .slice A0_3 l0_3.length c0_3, .slice A0_4 l0_4.length c0_4] 27 (0, 0)) (by (with_reducible repeat (first | refine blk_drewN ?_ _ | refine blk_drew ?_ | refine blk_alloc ?_ _)); exact BK101.out) hb)
                   have n5_ := Aside0.mk (blk_below (g := gb102) (o := .cells #[.int .i64 0, .int .i64 0, .int .i64 0, .int .i64 0, .int .i64 0, .int .i64 0, .int .i64 0] 35 (0, 0)) (by (with_reducible repeat (first | refine blk_drewN ?_ _ | refine blk_drew ?_ | refine blk_alloc ?_ _)); exact BK102.out) hb)
                   have n6_ := Aside0.mk (blk_below (g := gb122) (o := .cells #[.int .i64 ((rd_T56 l0_0 x73_4).f0), .bool ((rd_T56 l0_0 x73_4).f1), .string ((rd_T56 l0_0 x73_4).f2)] 56 (0, 0)) (by (with_reducible repeat (first | refine blk_drewN ?_ _ | refine blk_drew ?_ | refine blk_alloc ?_ _)); exact BK122.out) hb)
                   have n7_ := Aside0.mk (below_step (by repeat (first | (with_reducible first | exact HB.out | apply below_alloc | apply pw_below_drewN | apply below_drew1 | refine below_set ?_ GE101.out | refine below_set ?_ GE102.out | refine below_set ?_ GE122.out) | exact HB.out)) hb)
                   clear HO_9
                   clear HO_15
                   clear HO136
                   clear BK101
                   clear BK102
                   clear BK122
                   clear HB
                   have HO_9 := n0_
                   have HO_15 := n1_
                   have HO136 := n2_
                   have HO125 := n3_
                   have BK101 := n4_
                   have BK102 := n5_
                   have BK122 := n6_
                   have HB := n7_
                   clear n0_ n1_ n2_ n3_ n4_ n5_ n6_ n7_
                   (try clear hb)
                   (try clear hb2)
                   (try clear hk)
                   (try clear hi)
                   (try clear ho0)
                   refine hK.out _ _ ⟨(blk_cell BK122.out 0).trans rfl, (blk_cell BK122.out 1).trans rfl, (blk_cell BK122.out 2).trans rfl⟩ (fun hHeld => ?_)
                   clear hK K
                   refine norm_ (a' := ?_) ?_ ?_
                   rotate_left
                   ·
                    show Act.put _ (some 82) _ = _
                    simp only [Act.put, List.setIfInBounds_toArray, List.set_cons_zero, List.set_cons_succ, i64_w, i32_w]
                    rfl
                   refine one_ (i := 7) (N := some 85) #[true, true, true, true, true, true, true, true, false, true, true, true, true, true, false, false, false] rfl rfl (one_of HT_.out (by kernel_rfl)) (by decide) (fun K hK => ?_)
                   refine Kd.R_lit_step Kd.bool _ 4 ?hg (N := 85) ?hd (xs := ([(rd_T56 l0_0 x73_4).f1] : List Bool)) (inner := [.bool ((rd_T56 l0_0 x73_4).f1)]) (ok := fun _ => True) (okp := fun _ => True) ?hr ?hp (fun _ hk => hk) trivial (Below.refl _ _) (Nat.le_refl _) (by simp) ?_; (case hd => rfl); (case hg => rfl); (case hr => first | (go_simp; done) | (go_simp; rfl)); (case hp => exact (Reps.one (show Kd.M Kd.bool _ _ _ ((rd_T56 l0_0 x73_4).f1) [.bool ((rd_T56 l0_0 x73_4).f1)] from rfl) (Reps.none _ _)))
                   intro v127 w64 ho65 hb hg_ hnew_
                   clear hg_ hnew_
                   (first | rw [← Ny126.out] at ho65 | (simp only [Int.reduceToNat] at ho65; rw [← Ny126.out] at ho65))
                   have n0_ := Aside0.mk (Kd.R_below (by (with_reducible repeat (first | apply Kd.R_alloc | apply Kd.R_drewN | apply Kd.R_drew)); exact HO_9.out) hb)
                   have n1_ := Aside0.mk (Kd.R_below (by (with_reducible repeat (first | apply Kd.R_alloc | apply Kd.R_drewN | apply Kd.R_drew)); exact HO_15.out) hb)
                   have n2_ := Aside0.mk (Kd.V_elder' (by (with_reducible repeat (first | apply Kd.V_alloc | apply Kd.V_drewN | apply Kd.V_drew)); exact HO136.out) (Kd.R_base ho65) hb)
                   have n3_ := Aside0.mk (Kd.R_below (by (with_reducible repeat (first | apply Kd.R_alloc | apply Kd.R_drewN | apply Kd.R_drew)); exact HO125.out) hb)
                   have n4_ := Aside0.mk (Kd.R_lower ho65 (below_size (by repeat (first | (with_reducible first | exact HB.out | apply below_alloc | apply pw_below_drewN | apply below_drew1 | refine below_set ?_ GE101.out | refine below_set ?_ GE102.out | refine below_set ?_ GE122.out) | exact HB.out))))
                   have n5_ := Aside0.mk (blk_below (g := gb101) (o := .cells #[.slice (some ad121) l0_0.length c0_0, .slice A0_1 l0_1.length c0_1, .slice A0_2 l0_2.length c0_2, .slice A0_3 l0_3.length c0_3, .slice A0_4 l0_4.length c0_4] 27 (0, 0)) (by (with_reducible repeat (first | refine blk_drewN ?_ _ | refine blk_drew ?_ | refine blk_alloc ?_ _)); exact BK101.out) hb)
                   have n6_ := Aside0.mk (blk_below (g := gb102) (o := .cells #[.int .i64 0, .int .i64 0, .int .i64 0, .int .i64 0, .int .i64 0, .int .i64 0, .int .i64 0] 35 (0, 0)) (by (with_reducible repeat (first | refine blk_drewN ?_ _ | refine blk_drew ?_ | refine blk_alloc ?_ _)); exact BK102.out) hb)
                   have n7_ := Aside0.mk (blk_below (g := gb122) (o := .cells #[.int .i64 ((rd_T56 l0_0 x73_4).f0), .bool ((rd_T56 l0_0 x73_4).f1), .string ((rd_T56 l0_0 x73_4).f2)] 56 (0, 0)) (by (with_reducible repeat (first | refine blk_drewN ?_ _ | refine blk_drew ?_ | refine blk_alloc ?_ _)); exact BK122.out) hb)
                   have n8_ := Aside0.mk (below_step (by repeat (first | (with_reducible first | exact HB.out | apply below_alloc | apply pw_below_drewN | apply below_drew1 | refine below_set ?_ GE101.out | refine below_set ?_ GE102.out | refine below_set ?_ GE122.out) | exact HB.out)) hb)
                   clear HO_9
                   clear HO_15
                   clear HO136
                   clear HO125
                   clear BK101
                   clear BK102
                   clear BK122
                   clear HB
                   have HO_9 := n0_
                   have HO_15 := n1_
                   have HO136 := n2_
                   have HO125 := n3_
                   have HO128 := n4_
                   have BK101 := n5_
                   have BK102 := n6_
                   have BK122 := n7_
                   have HB := n8_
                   clear n0_ n1_ n2_ n3_ n4_ n5_ n6_ n7_ n8_
                   clear hb ho65
                   refine hK.out _ _ ⟨(blk_cell BK122.out 0).trans rfl, (blk_cell BK122.out 1).trans rfl, (blk_cell BK122.out 2).trans rfl⟩ (fun hHeld => ?_)
                   clear hK K
                   refine norm_ (a' := ?_) ?_ ?_
                   rotate_left
                   ·
                    show Act.put _ (some 85) _ = _
                    simp only [Act.put, List.setIfInBounds_toArray, List.set_cons_zero, List.set_cons_succ, i64_w, i32_w]
                    rfl
                   exact norm_ (by simp only [putAll, Act.put, List.setIfInBounds_toArray, List.set_cons_zero, List.set_cons_succ]) (hCont (v124, v127) _ ⟨hHeld, (by (with_reducible repeat (first | apply Kd.R_alloc | apply Kd.R_drewN | apply Kd.R_drew)); exact Kd.R_mono HO125.out (fun _ hk => ⟨hk.2, hk.1.2⟩)), (by (with_reducible repeat (first | apply Kd.R_alloc | apply Kd.R_drewN | apply Kd.R_drew)); exact HO128.out), (by (with_reducible repeat (first | apply Kd.V_alloc | apply Kd.V_drewN | apply Kd.V_drew)); exact Kd.V_mono HO136.out (fun _ hk => ⟨hk.1.2, ⟨hk.2, ⟨hk.1.1.1.1.1, ⟨hk.1.1.1.1.2, ⟨hk.1.1.1.2, hk.1.1.2⟩⟩⟩⟩⟩)), (by (with_reducible repeat (first | apply Kd.R_alloc | apply Kd.R_drewN | apply Kd.R_drew)); exact Kd.R_mono HO_15.out (fun _ hk => ⟨hk.2, hk.1⟩)), (by (with_reducible repeat (first | apply Kd.R_alloc | apply Kd.R_drewN | apply Kd.R_drew)); exact Kd.R_mono HO_9.out (fun _ hk => ⟨hk.2, hk.1⟩)), (by (with_reducible repeat (first | refine blk_drewN ?_ _ | refine blk_drew ?_ | refine blk_alloc ?_ _)); exact BK101.out), (by (with_reducible repeat (first | refine blk_drewN ?_ _ | refine blk_drew ?_ | refine blk_alloc ?_ _)); exact BK102.out), (by (with_reducible repeat (first | refine blk_drewN ?_ _ | refine blk_drew ?_ | refine blk_alloc ?_ _)); exact BK122.out), (by repeat (first | (with_reducible first | exact HB.out | apply below_alloc | apply pw_below_drewN | apply below_drew1 | refine below_set ?_ GE101.out | refine below_set ?_ GE102.out | refine below_set ?_ GE122.out) | exact HB.out))⟩)
                  ·
                   skip
                   refine Kd.R_lit_step Kd.bool _ 4 ?hg (N := 85) ?hd (xs := ([(rd_T56 l0_0 x73_4).f1] : List Bool)) (inner := [.bool ((rd_T56 l0_0 x73_4).f1)]) (ok := fun _ => True) (okp := fun _ => True) ?hr ?hp (fun _ hk => hk) trivial (Below.refl _ _) (Nat.le_refl _) (by simp) ?_; (case hd => rfl); (case hg => rfl); (case hr => first | (go_simp; done) | (go_simp; rfl)); (case hp => exact (Reps.one (show Kd.M Kd.bool _ _ _ ((rd_T56 l0_0 x73_4).f1) [.bool ((rd_T56 l0_0 x73_4).f1)] from rfl) (Reps.none _ _)))
                   intro v127 w63 ho64 hb hg_ hnew_
                   clear hg_ hnew_
                   (first | rw [← Ny126.out] at ho64 | (simp only [Int.reduceToNat] at ho64; rw [← Ny126.out] at ho64))
                   have n0_ := Aside0.mk (Kd.R_below (by (with_reducible repeat (first | apply Kd.R_alloc | apply Kd.R_drewN | apply Kd.R_drew)); exact HO_9.out) hb)
                   have n1_ := Aside0.mk (Kd.R_below (by (with_reducible repeat (first | apply Kd.R_alloc | apply Kd.R_drewN | apply Kd.R_drew)); exact HO_15.out) hb)
                   have n2_ := Aside0.mk (Kd.V_elder' (by (with_reducible repeat (first | apply Kd.V_alloc | apply Kd.V_drewN | apply Kd.V_drew)); exact HO136.out) (Kd.R_base ho64) hb)
                   have n3_ := Aside0.mk (Kd.R_lower ho64 (below_size (by repeat (first | (with_reducible first | exact HB.out | apply below_alloc | apply pw_below_drewN | apply below_drew1 | refine below_set ?_ GE101.out | refine below_set ?_ GE102.out | refine below_set ?_ GE122.out) | exact HB.out))))
                   have n4_ := Aside0.mk (blk_below (g := gb101) (o := .cells #[.slice (some ad121) l0_0.length c0_0, .slice A0_1 l0_1.length c0_1, .slice A0_2 l0_2.length c0_2, .slice A0_3 l0_3.length c0_3, .slice A0_4 l0_4.length c0_4] 27 (0, 0)) (by (with_reducible repeat (first | refine blk_drewN ?_ _ | refine blk_drew ?_ | refine blk_alloc ?_ _)); exact BK101.out) hb)
                   have n5_ := Aside0.mk (blk_below (g := gb102) (o := .cells #[.int .i64 0, .int .i64 0, .int .i64 0, .int .i64 0, .int .i64 0, .int .i64 0, .int .i64 0] 35 (0, 0)) (by (with_reducible repeat (first | refine blk_drewN ?_ _ | refine blk_drew ?_ | refine blk_alloc ?_ _)); exact BK102.out) hb)
                   have n6_ := Aside0.mk (blk_below (g := gb122) (o := .cells #[.int .i64 ((rd_T56 l0_0 x73_4).f0), .bool ((rd_T56 l0_0 x73_4).f1), .string ((rd_T56 l0_0 x73_4).f2)] 56 (0, 0)) (by (with_reducible repeat (first | refine blk_drewN ?_ _ | refine blk_drew ?_ | refine blk_alloc ?_ _)); exact BK122.out) hb)
                   have n7_ := Aside0.mk (below_step (by repeat (first | (with_reducible first | exact HB.out | apply below_alloc | apply pw_below_drewN | apply below_drew1 | refine below_set ?_ GE101.out | refine below_set ?_ GE102.out | refine below_set ?_ GE122.out) | exact HB.out)) hb)
                   clear HO_9
                   clear HO_15
                   clear HO136
                   clear BK101
                   clear BK102
                   clear BK122
                   clear HB
                   have HO_9 := n0_
                   have HO_15 := n1_
                   have HO136 := n2_
                   have HO128 := n3_
                   have BK101 := n4_
                   have BK102 := n5_
                   have BK122 := n6_
                   have HB := n7_
                   clear n0_ n1_ n2_ n3_ n4_ n5_ n6_ n7_
                   clear hb ho64
                   refine hK.out _ _ ⟨(blk_cell BK122.out 0).trans rfl, (blk_cell BK122.out 1).trans rfl, (blk_cell BK122.out 2).trans rfl⟩ (fun hHeld => ?_)
                   clear hK K
                   refine norm_ (a' := ?_) ?_ ?_
                   rotate_left
                   ·
                    show Act.put _ (some 85) _ = _
                    simp only [Act.put, List.setIfInBounds_toArray, List.set_cons_zero, List.set_cons_succ, i64_w, i32_w]
                    rfl
                   refine one_ (i := 4) (N := some 82) #[true, true, true, true, true, true, true, true, false, true, true, true, true, true, false, false, false] rfl rfl (one_of HT_.out (by kernel_rfl)) (by decide) (fun K hK => ?_)
                   refine goes_ Try.func26 (by kernel_rfl) rfl #[.slice none 0 0, .int .i64 4, .int .u64 (IntKind.u64.wrap ((rd_T56 l0_0 x73_4).f0))] (by rfl) rfl rfl (by (try simp only [List.map_toArray, List.map_cons, List.map_nil]); first | done | rfl | (simp only [List.length_drop, List.length_take]; rfl)) ?_
                   refine (octets_Put.calls _ _ ([] : List Int) 4 (IntKind.u64.wrap ((rd_T56 l0_0 x73_4).f0)) t123 _ ?side1 ?side2 A49.out).mono ?_
                   (case side1 => exact Kd.C_nil _ _)
                   (case side2 => exact Nat.le_refl _)
                   rintro e w65 ⟨v124, rfl, ho0, hb⟩
                   refine ⟨_, rfl, ?_⟩
                   have n0_ := Aside0.mk (Kd.R_elder' (by (with_reducible repeat (first | apply Kd.R_alloc | apply Kd.R_drewN | apply Kd.R_drew)); exact HO_9.out) (Kd.R_base ho0) hb)
                   have n1_ := Aside0.mk (Kd.R_elder' (by (with_reducible repeat (first | apply Kd.R_alloc | apply Kd.R_drewN | apply Kd.R_drew)); exact HO_15.out) (Kd.R_base ho0) hb)
                   have n2_ := Aside0.mk (Kd.V_elder' (by (with_reducible repeat (first | apply Kd.V_alloc | apply Kd.V_drewN | apply Kd.V_drew)); exact HO136.out) (Kd.R_base ho0) hb)
                   have n3_ := Aside0.mk (Kd.R_below (by (with_reducible repeat (first | apply Kd.R_alloc | apply Kd.R_drewN | apply Kd.R_drew)); exact HO128.out) hb)
                   have n4_ := Aside0.mk (Kd.R_lower (Kd.R_new' (Kd.R_new' ho0 (Kd.R_lt (by (with_reducible repeat (first | apply Kd.R_alloc | apply Kd.R_drewN | apply Kd.R_drew)); exact HO_9.out))) (Kd.R_lt (by (with_reducible repeat (first | apply Kd.R_alloc | apply Kd.R_drewN | apply Kd.R_drew)); exact HO_15.out))) (below_size (by repeat (first | (with_reducible first | exact HB.out | apply below_alloc | apply pw_below_drewN | apply below_drew1 | refine below_set ?_ GE101.out | refine below_set ?_ GE102.out | refine below_set ?_ GE122.out) | exact HB.out))))
                   have n5_ := Aside0.mk (blk_below (g := gb101) (o := .cells #[.slice (some ad121) l0_0.length c0_0, .slice A0_1 l0_1.length c0_1, .slice A0_2 l0_2.length c0_2, .slice A0_3 l0_3.length c0_3, .slice A0_4 l0_4.length c0_4] 27 (0, 0)) (by (with_reducible repeat (first | refine blk_drewN ?_ _ | refine blk_drew ?_ | refine blk_alloc ?_ _)); exact BK101.out) hb)
                   have n6_ := Aside0.mk (blk_below (g := gb102) (o := .cells #[.int .i64 0, .int .i64 0, .int .i64 0, .int .i64 0, .int .i64 0, .int .i64 0, .int .i64 0] 35 (0, 0)) (by (with_reducible repeat (first | refine blk_drewN ?_ _ | refine blk_drew ?_ | refine blk_alloc ?_ _)); exact BK102.out) hb)
                   have n7_ := Aside0.mk (blk_below (g := gb122) (o := .cells #[.int .i64 ((rd_T56 l0_0 x73_4).f0), .bool ((rd_T56 l0_0 x73_4).f1), .string ((rd_T56 l0_0 x73_4).f2)] 56 (0, 0)) (by (with_reducible repeat (first | refine blk_drewN ?_ _ | refine blk_drew ?_ | refine blk_alloc ?_ _)); exact BK122.out) hb)
                   have n8_ := Aside0.mk (below_step (by repeat (first | (with_reducible first | exact HB.out | apply below_alloc | apply pw_below_drewN | apply below_drew1 | refine below_set ?_ GE101.out | refine below_set ?_ GE102.out | refine below_set ?_ GE122.out) | exact HB.out)) hb)
                   clear HO_9
                   clear HO_15
                   clear HO136
                   clear HO128
                   clear BK101
                   clear BK102
                   clear BK122
                   clear HB
                   have HO_9 := n0_
                   have HO_15 := n1_
                   have HO136 := n2_
                   have HO128 := n3_
                   have HO125 := n4_
                   have BK101 := n5_
                   have BK102 := n6_
                   have BK122 := n7_
                   have HB := n8_
                   clear n0_ n1_ n2_ n3_ n4_ n5_ n6_ n7_ n8_
                   (try clear hb)
                   (try clear hb2)
                   (try clear hk)
                   (try clear hi)
                   (try clear ho0)
                   refine hK.out _ _ ⟨(blk_cell BK122.out 0).trans rfl, (blk_cell BK122.out 1).trans rfl, (blk_cell BK122.out 2).trans rfl⟩ (fun hHeld => ?_)
                   clear hK K
                   refine norm_ (a' := ?_) ?_ ?_
                   rotate_left
                   ·
                    show Act.put _ (some 82) _ = _
                    simp only [Act.put, List.setIfInBounds_toArray, List.set_cons_zero, List.set_cons_succ, i64_w, i32_w]
                    rfl
                   exact norm_ (by simp only [putAll, Act.put, List.setIfInBounds_toArray, List.set_cons_zero, List.set_cons_succ]) (hCont (v124, v127) _ ⟨hHeld, (by (with_reducible repeat (first | apply Kd.R_alloc | apply Kd.R_drewN | apply Kd.R_drew)); exact Kd.R_mono HO125.out (fun _ hk => ⟨hk.2, hk.1.2⟩)), (by (with_reducible repeat (first | apply Kd.R_alloc | apply Kd.R_drewN | apply Kd.R_drew)); exact HO128.out), (by (with_reducible repeat (first | apply Kd.V_alloc | apply Kd.V_drewN | apply Kd.V_drew)); exact Kd.V_mono HO136.out (fun _ hk => ⟨hk.2, ⟨hk.1.2, ⟨hk.1.1.1.1.1, ⟨hk.1.1.1.1.2, ⟨hk.1.1.1.2, hk.1.1.2⟩⟩⟩⟩⟩)), (by (with_reducible repeat (first | apply Kd.R_alloc | apply Kd.R_drewN | apply Kd.R_drew)); exact Kd.R_mono HO_15.out (fun _ hk => ⟨hk.2, hk.1⟩)), (by (with_reducible repeat (first | apply Kd.R_alloc | apply Kd.R_drewN | apply Kd.R_drew)); exact Kd.R_mono HO_9.out (fun _ hk => ⟨hk.2, hk.1⟩)), (by (with_reducible repeat (first | refine blk_drewN ?_ _ | refine blk_drew ?_ | refine blk_alloc ?_ _)); exact BK101.out), (by (with_reducible repeat (first | refine blk_drewN ?_ _ | refine blk_drew ?_ | refine blk_alloc ?_ _)); exact BK102.out), (by (with_reducible repeat (first | refine blk_drewN ?_ _ | refine blk_drew ?_ | refine blk_alloc ?_ _)); exact BK122.out), (by repeat (first | (with_reducible first | exact HB.out | apply below_alloc | apply pw_below_drewN | apply below_drew1 | refine below_set ?_ GE101.out | refine below_set ?_ GE102.out | refine below_set ?_ GE122.out) | exact HB.out))⟩)
                 rintro ⟨v124, v127⟩ w66 ⟨hS_, h0_, h1_, h2_, h3_, h4_, h5_, h6_, h7_, h8_⟩
                 have n0_ : Aside0 (Kd.R (Kd.int .u8) 5 w66 w.heap.size (fun k_ => some k_ ≠ (.slice Ao62 t118.length co62 : Value).ownBlock ∧ some k_ ≠ (u9 : Value).ownBlock) v124 t123) := ⟨h0_⟩
                 have n1_ : Aside0 (Kd.R Kd.bool 4 w66 w.heap.size (fun _ => True) v127 y126) := ⟨h1_⟩
                 have n2_ : Aside0 (Kd.V (Kd.int .u8) 5 w66 w.heap.size (fun k_ => some k_ ≠ (v124 : Value).ownBlock ∧ some k_ ≠ (v127 : Value).ownBlock ∧ some k_ ≠ (u9 : Value).ownBlock ∧ k_ ≠ gb101 ∧ k_ ≠ gb102 ∧ k_ ≠ gb122) (.slice A61 y132.length c61) y132) := ⟨h2_⟩
                 have n3_ : Aside0 (Kd.R (Kd.int .u8) 5 w66 w.heap.size (fun k_ => some k_ ≠ (v124 : Value).ownBlock ∧ some k_ ≠ (u9 : Value).ownBlock) (.slice Ao62 t118.length co62) t118) := ⟨h3_⟩
                 have n4_ : Aside0 (Kd.R (Kd.int .u8) 5 w66 w.heap.size (fun k_ => some k_ ≠ (v124 : Value).ownBlock ∧ some k_ ≠ (.slice Ao62 t118.length co62 : Value).ownBlock) u9 x9_4) := ⟨h4_⟩
                 have n5_ : Aside0 (w66.heap[gb101]? = some (.cells #[.slice (some ad121) l0_0.length c0_0, .slice A0_1 l0_1.length c0_1, .slice A0_2 l0_2.length c0_2, .slice A0_3 l0_3.length c0_3, .slice A0_4 l0_4.length c0_4] 27 (0, 0))) := ⟨h5_⟩
                 have n6_ : Aside0 (w66.heap[gb102]? = some (.cells #[.int .i64 0, .int .i64 0, .int .i64 0, .int .i64 0, .int .i64 0, .int .i64 0, .int .i64 0] 35 (0, 0))) := ⟨h6_⟩
                 have n7_ : Aside0 (w66.heap[gb122]? = some (.cells #[.int .i64 ((rd_T56 l0_0 x73_4).f0), .bool ((rd_T56 l0_0 x73_4).f1), .string ((rd_T56 l0_0 x73_4).f2)] 56 (0, 0))) := ⟨h7_⟩
                 have n8_ : Aside0 (Below w.heap.size w w66) := ⟨h8_⟩
                 clear HO_9
                 clear HO_15
                 clear BK101
                 clear BK102
                 clear BK122
                 clear HB
                 clear h0_ h1_ h2_ h3_ h4_ h5_ h6_ h7_ h8_
                 have HO125 := n0_
                 have HO128 := n1_
                 have HO136 := n2_
                 have HO_15 := n3_
                 have HO_9 := n4_
                 have BK101 := n5_
                 have BK102 := n6_
                 have BK122 := n7_
                 have HB := n8_
                 clear n0_ n1_ n2_ n3_ n4_ n5_ n6_ n7_ n8_
                 have hHeld : w66.cell? ⟨gb122, 0, none⟩ = some (.int .i64 ((rd_T56 l0_0 x73_4).f0)) ∧ w66.cell? ⟨gb122, 1, none⟩ = some (.bool ((rd_T56 l0_0 x73_4).f1)) ∧ w66.cell? ⟨gb122, 2, none⟩ = some (.string ((rd_T56 l0_0 x73_4).f2)) := hS_
                 obtain ⟨Ao67, co67, eo67⟩ := Kd.R_slice HO128.out
                 (first | subst eo67 | (injection eo67 with f1_ f2_ f3_; have f4_ := f1_.symm; have f5_ := f3_.symm; clear f1_ f2_ f3_; subst f4_; subst f5_))
                 refine norm_ (a' := ?_) ?_ ?_
                 rotate_left
                 ·
                  simp only [putAll, Act.put, List.setIfInBounds_toArray, List.set_cons_zero, List.set_cons_succ]
                  rfl
                 refine one_ (i := 8) (N := some 86) #[true, true, true, true, true, true, true, true, true, true, true, true, true, true, false, false, false] rfl rfl (one_of HT_.out (by kernel_rfl)) (by decide) (fun K hK => ?_)
                 refine goes_ Try.func29 (by kernel_rfl) rfl #[.slice Ao67 y126.length co67] (by rfl) rfl rfl (by (try simp only [List.map_toArray, List.map_cons, List.map_nil]); first | done | rfl | (simp only [List.length_drop, List.length_take]; rfl)) ?_
                 with_reducible refine (block_truths.calls _ _ y126 t129 _ ?side1 ?side2 A50.out).mono ?_
                 (case side1 => repeat (first | exact (Kd.R_reads' HO128.out).2.2 | (with_reducible refine Kd.C_alloc ?_ _) | (with_reducible refine Kd.C_drewN ?_ _) | (with_reducible refine Kd.C_drew ?_)))
                 (case side2 => exact (Kd.R_reads' HO128.out).2.1)
                 rintro e w68 ⟨v130, rfl, ho0, hb⟩
                 refine ⟨_, rfl, ?_⟩
                 have n0_ := Aside0.mk (Kd.R_elder' (by (with_reducible repeat (first | apply Kd.R_alloc | apply Kd.R_drewN | apply Kd.R_drew)); exact HO_9.out) (Kd.R_base ho0) hb)
                 have n1_ := Aside0.mk (Kd.R_elder' (by (with_reducible repeat (first | apply Kd.R_alloc | apply Kd.R_drewN | apply Kd.R_drew)); exact HO_15.out) (Kd.R_base ho0) hb)
                 have n2_ := Aside0.mk (Kd.V_elder' (by (with_reducible repeat (first | apply Kd.V_alloc | apply Kd.V_drewN | apply Kd.V_drew)); exact HO136.out) (Kd.R_base ho0) hb)
                 have n3_ := Aside0.mk (Kd.R_elder' (by (with_reducible repeat (first | apply Kd.R_alloc | apply Kd.R_drewN | apply Kd.R_drew)); exact HO125.out) (Kd.R_base ho0) hb)
                 have n4_ := Aside0.mk (Kd.R_below (by (with_reducible repeat (first | apply Kd.R_alloc | apply Kd.R_drewN | apply Kd.R_drew)); exact HO128.out) hb)
                 have n5_ := Aside0.mk (Kd.R_lower (Kd.R_new' (Kd.R_new' (Kd.R_new' ho0 (Kd.R_lt (by (with_reducible repeat (first | apply Kd.R_alloc | apply Kd.R_drewN | apply Kd.R_drew)); exact HO_9.out))) (Kd.R_lt (by (with_reducible repeat (first | apply Kd.R_alloc | apply Kd.R_drewN | apply Kd.R_drew)); exact HO_15.out))) (Kd.R_lt (by (with_reducible repeat (first | apply Kd.R_alloc | apply Kd.R_drewN | apply Kd.R_drew)); exact HO125.out))) (below_size (by repeat (first | (with_reducible first | exact HB.out | apply below_alloc | apply pw_below_drewN | apply below_drew1 | refine below_set ?_ GE101.out | refine below_set ?_ GE102.out | refine below_set ?_ GE122.out) | exact HB.out))))
                 have n6_ := Aside0.mk (blk_below (g := gb101) (o := .cells #[.slice (some ad121) l0_0.length c0_0, .slice A0_1 l0_1.length c0_1, .slice A0_2 l0_2.length c0_2, .slice A0_3 l0_3.length c0_3, .slice A0_4 l0_4.length c0_4] 27 (0, 0)) (by (with_reducible repeat (first | refine blk_drewN ?_ _ | refine blk_drew ?_ | refine blk_alloc ?_ _)); exact BK101.out) hb)
                 have n7_ := Aside0.mk (blk_below (g := gb102) (o := .cells #[.int .i64 0, .int .i64 0, .int .i64 0, .int .i64 0, .int .i64 0, .int .i64 0, .int .i64 0] 35 (0, 0)) (by (with_reducible repeat (first | refine blk_drewN ?_ _ | refine blk_drew ?_ | refine blk_alloc ?_ _)); exact BK102.out) hb)
                 have n8_ := Aside0.mk (blk_below (g := gb122) (o := .cells #[.int .i64 ((rd_T56 l0_0 x73_4).f0), .bool ((rd_T56 l0_0 x73_4).f1), .string ((rd_T56 l0_0 x73_4).f2)] 56 (0, 0)) (by (with_reducible repeat (first | refine blk_drewN ?_ _ | refine blk_drew ?_ | refine blk_alloc ?_ _)); exact BK122.out) hb)
                 have n9_ := Aside0.mk (below_step (by repeat (first | (with_reducible first | exact HB.out | apply below_alloc | apply pw_below_drewN | apply below_drew1 | refine below_set ?_ GE101.out | refine below_set ?_ GE102.out | refine below_set ?_ GE122.out) | exact HB.out)) hb)
                 clear HO_9
                 clear HO_15
                 clear HO136
                 clear HO125
                 clear HO128
                 clear BK101
                 clear BK102
                 clear BK122
                 clear HB
                 have HO_9 := n0_
                 have HO_15 := n1_
                 have HO136 := n2_
                 have HO125 := n3_
                 have HO128 := n4_
                 have HO131 := n5_
                 have BK101 := n6_
                 have BK102 := n7_
                 have BK122 := n8_
                 have HB := n9_
                 clear n0_ n1_ n2_ n3_ n4_ n5_ n6_ n7_ n8_ n9_
                 (try clear hb)
                 (try clear hb2)
                 (try clear hk)
                 (try clear hi)
                 (try clear ho0)
                 obtain ⟨Ao69, co69, eo69⟩ := Kd.R_slice HO_9.out
                 (first | subst eo69 | (injection eo69 with f1_ f2_ f3_; have f4_ := f1_.symm; have f5_ := f3_.symm; clear f1_ f2_ f3_; subst f4_; subst f5_))
                 obtain ⟨Ao70, co70, eo70⟩ := Kd.R_slice HO125.out
                 (first | subst eo70 | (injection eo70 with f1_ f2_ f3_; have f4_ := f1_.symm; have f5_ := f3_.symm; clear f1_ f2_ f3_; subst f4_; subst f5_))
                 obtain ⟨Ao71, co71, eo71⟩ := Kd.R_slice HO131.out
                 (first | subst eo71 | (injection eo71 with f1_ f2_ f3_; have f4_ := f1_.symm; have f5_ := f3_.symm; clear f1_ f2_ f3_; subst f4_; subst f5_))
                 refine hK.out _ _ ⟨(blk_cell BK122.out 0).trans rfl, (blk_cell BK122.out 1).trans rfl, (blk_cell BK122.out 2).trans rfl⟩ (fun hHeld => ?_)
                 clear hK K
                 refine norm_ (a' := ?_) ?_ ?_
                 rotate_left
                 ·
                  show Act.put _ (some 86) _ = _
                  simp only [Act.put, List.setIfInBounds_toArray, List.set_cons_zero, List.set_cons_succ, i64_w, i32_w]
                  rfl
                 refine one_ (i := 14) (N := some 92) #[true, true, true, true, true, true, true, true, true, true, true, true, true, true, true, false, false] rfl rfl (one_of HT_.out (by kernel_rfl)) (by decide) (fun K hK => ?_)
                 refine Kd.N_lit_step (Kd.slice 5 (Kd.int .u8)) _ 33 ?hg (N' := 92) ?hd (xs := ([x9_4, t123, t129, y132] : List (List Int))) (inner := [.slice Ao69 x9_4.length co69, .slice Ao70 t123.length co70, .slice Ao71 t129.length co71, .slice A61 y132.length c61]) (ok := (fun k_ => some k_ ≠ (.slice Ao67 y126.length co67 : Value).ownBlock ∧ k_ ≠ gb101 ∧ k_ ≠ gb102 ∧ k_ ≠ gb122)) (okp := (fun k_ => some k_ ≠ (.slice Ao67 y126.length co67 : Value).ownBlock ∧ k_ ≠ gb101 ∧ k_ ≠ gb102 ∧ k_ ≠ gb122)) ?hr ?hp (fun _ hk => hk) ((show ∀ k_, w68.heap.size ≤ k_ → (fun k_ => some k_ ≠ (.slice Ao67 y126.length co67 : Value).ownBlock ∧ k_ ≠ gb101 ∧ k_ ≠ gb102 ∧ k_ ≠ gb122) k_ from fun k_ hk => ⟨Kd.fresh' (Kd.R_lt (by (with_reducible repeat (first | apply Kd.R_alloc | apply Kd.R_drewN | apply Kd.R_drew)); exact HO128.out)) k_ hk, Kd.freshB (g := gb101) (o := .cells #[.slice (some ad121) l0_0.length c0_0, .slice A0_1 l0_1.length c0_1, .slice A0_2 l0_2.length c0_2, .slice A0_3 l0_3.length c0_3, .slice A0_4 l0_4.length c0_4] 27 (0, 0)) (by (with_reducible repeat (first | refine blk_drewN ?_ _ | refine blk_drew ?_ | refine blk_alloc ?_ _)); exact BK101.out) k_ hk, Kd.freshB (g := gb102) (o := .cells #[.int .i64 0, .int .i64 0, .int .i64 0, .int .i64 0, .int .i64 0, .int .i64 0, .int .i64 0] 35 (0, 0)) (by (with_reducible repeat (first | refine blk_drewN ?_ _ | refine blk_drew ?_ | refine blk_alloc ?_ _)); exact BK102.out) k_ hk, Kd.freshB (g := gb122) (o := .cells #[.int .i64 ((rd_T56 l0_0 x73_4).f0), .bool ((rd_T56 l0_0 x73_4).f1), .string ((rd_T56 l0_0 x73_4).f2)] 56 (0, 0)) (by (with_reducible repeat (first | refine blk_drewN ?_ _ | refine blk_drew ?_ | refine blk_alloc ?_ _)); exact BK122.out) k_ hk⟩) _ (Nat.le_refl _)) (Below.refl _ _) (Nat.le_refl _) (by simp) ?_; (case hd => rfl); (case hg => rfl); (case hr => first | (go_simp; done) | (go_simp; rfl)); (case hp => exact (Reps.one (show Kd.FK (Kd.slice 5 (Kd.int .u8)) _ _ x9_4 [.slice Ao69 x9_4.length co69] from (Kd.FK_slice_mk (Kd.R_reads' (Kd.R_mono (ok' := (fun k_ => some k_ ≠ (.slice Ao67 y126.length co67 : Value).ownBlock ∧ k_ ≠ gb101 ∧ k_ ≠ gb102 ∧ k_ ≠ gb122)) (Kd.R_types (Kd.R_types (Kd.R_types (Kd.R_apart' (HO_9.out) (Kd.R_typed HO128.out) (by decide)) BK101.out (by decide)) BK102.out (by decide)) BK122.out (by decide)) (fun k_ hk => ⟨hk.1.1.1.2, ⟨hk.1.1.2, ⟨hk.1.2, hk.2⟩⟩⟩))).2.1 (Kd.R_F (Kd.R_mono (ok' := (fun k_ => some k_ ≠ (.slice Ao67 y126.length co67 : Value).ownBlock ∧ k_ ≠ gb101 ∧ k_ ≠ gb102 ∧ k_ ≠ gb122)) (Kd.R_types (Kd.R_types (Kd.R_types (Kd.R_apart' (HO_9.out) (Kd.R_typed HO128.out) (by decide)) BK101.out (by decide)) BK102.out (by decide)) BK122.out (by decide)) (fun k_ hk => ⟨hk.1.1.1.2, ⟨hk.1.1.2, ⟨hk.1.2, hk.2⟩⟩⟩))))) (Reps.one (show Kd.FK (Kd.slice 5 (Kd.int .u8)) _ _ t123 [.slice Ao70 t123.length co70] from (Kd.FK_slice_mk (Kd.R_reads' (Kd.R_mono (ok' := (fun k_ => some k_ ≠ (.slice Ao67 y126.length co67 : Value).ownBlock ∧ k_ ≠ gb101 ∧ k_ ≠ gb102 ∧ k_ ≠ gb122)) (Kd.R_types (Kd.R_types (Kd.R_types (Kd.R_apart' (HO125.out) (Kd.R_typed HO128.out) (by decide)) BK101.out (by decide)) BK102.out (by decide)) BK122.out (by decide)) (fun k_ hk => ⟨hk.1.1.1.2, ⟨hk.1.1.2, ⟨hk.1.2, hk.2⟩⟩⟩))).2.1 (Kd.R_F (Kd.R_mono (ok' := (fun k_ => some k_ ≠ (.slice Ao67 y126.length co67 : Value).ownBlock ∧ k_ ≠ gb101 ∧ k_ ≠ gb102 ∧ k_ ≠ gb122)) (Kd.R_types (Kd.R_types (Kd.R_types (Kd.R_apart' (HO125.out) (Kd.R_typed HO128.out) (by decide)) BK101.out (by decide)) BK102.out (by decide)) BK122.out (by decide)) (fun k_ hk => ⟨hk.1.1.1.2, ⟨hk.1.1.2, ⟨hk.1.2, hk.2⟩⟩⟩))))) (Reps.one (show Kd.FK (Kd.slice 5 (Kd.int .u8)) _ _ t129 [.slice Ao71 t129.length co71] from (Kd.FK_slice_mk (Kd.R_reads' (Kd.R_mono (ok' := (fun k_ => some k_ ≠ (.slice Ao67 y126.length co67 : Value).ownBlock ∧ k_ ≠ gb101 ∧ k_ ≠ gb102 ∧ k_ ≠ gb122)) (Kd.R_types (Kd.R_types (Kd.R_types (Kd.R_apart' (HO131.out) (Kd.R_typed HO128.out) (by decide)) BK101.out (by decide)) BK102.out (by decide)) BK122.out (by decide)) (fun k_ hk => ⟨hk.1.1.1.2, ⟨hk.1.1.2, ⟨hk.1.2, hk.2⟩⟩⟩))).2.1 (Kd.R_F (Kd.R_mono (ok' := (fun k_ => some k_ ≠ (.slice Ao67 y126.length co67 : Value).ownBlock ∧ k_ ≠ gb101 ∧ k_ ≠ gb102 ∧ k_ ≠ gb122)) (Kd.R_types (Kd.R_types (Kd.R_types (Kd.R_apart' (HO131.out) (Kd.R_typed HO128.out) (by decide)) BK101.out (by decide)) BK102.out (by decide)) BK122.out (by decide)) (fun k_ hk => ⟨hk.1.1.1.2, ⟨hk.1.1.2, ⟨hk.1.2, hk.2⟩⟩⟩))))) (Reps.one (show Kd.FK (Kd.slice 5 (Kd.int .u8)) _ _ y132 [.slice A61 y132.length c61] from (Kd.FK_slice_mk (Kd.V_reads' (Kd.V_mono (ok' := (fun k_ => some k_ ≠ (.slice Ao67 y126.length co67 : Value).ownBlock ∧ k_ ≠ gb101 ∧ k_ ≠ gb102 ∧ k_ ≠ gb122)) (HO136.out) (fun k_ hk => ⟨hk.1.2.1, ⟨hk.1.2.2.2.1, ⟨hk.1.2.2.2.2.1, hk.1.2.2.2.2.2⟩⟩⟩))).2.1 (Kd.V_F (Kd.V_mono (ok' := (fun k_ => some k_ ≠ (.slice Ao67 y126.length co67 : Value).ownBlock ∧ k_ ≠ gb101 ∧ k_ ≠ gb102 ∧ k_ ≠ gb122)) (HO136.out) (fun k_ hk => ⟨hk.1.2.1, ⟨hk.1.2.2.2.1, ⟨hk.1.2.2.2.2.1, hk.1.2.2.2.2.2⟩⟩⟩))))) (Reps.none _ _))))))
                 intro v138 w72 ho73 hb hg_ hnew_
                 clear hg_ hnew_
                 (first | rw [← Ny137.out] at ho73 | (simp only [Int.reduceToNat] at ho73; rw [← Ny137.out] at ho73))
                 have n0_ := Aside0.mk (Kd.R_below (by (with_reducible repeat (first | apply Kd.R_alloc | apply Kd.R_drewN | apply Kd.R_drew)); exact HO_15.out) hb)
                 have n1_ := Aside0.mk (Kd.V_elder' (by (with_reducible repeat (first | apply Kd.V_alloc | apply Kd.V_drewN | apply Kd.V_drew)); exact HO136.out) (Kd.N_base ho73) hb)
                 have n2_ := Aside0.mk (Kd.R_below (by (with_reducible repeat (first | apply Kd.R_alloc | apply Kd.R_drewN | apply Kd.R_drew)); exact HO128.out) hb)
                 have n3_ := Aside0.mk (Kd.N_lower ho73 (below_size (by repeat (first | (with_reducible first | exact HB.out | apply below_alloc | apply pw_below_drewN | apply below_drew1 | refine below_set ?_ GE101.out | refine below_set ?_ GE102.out | refine below_set ?_ GE122.out) | exact HB.out))))
                 have n4_ := Aside0.mk (blk_below (g := gb101) (o := .cells #[.slice (some ad121) l0_0.length c0_0, .slice A0_1 l0_1.length c0_1, .slice A0_2 l0_2.length c0_2, .slice A0_3 l0_3.length c0_3, .slice A0_4 l0_4.length c0_4] 27 (0, 0)) (by (with_reducible repeat (first | refine blk_drewN ?_ _ | refine blk_drew ?_ | refine blk_alloc ?_ _)); exact BK101.out) hb)
                 have n5_ := Aside0.mk (blk_below (g := gb102) (o := .cells #[.int .i64 0, .int .i64 0, .int .i64 0, .int .i64 0, .int .i64 0, .int .i64 0, .int .i64 0] 35 (0, 0)) (by (with_reducible repeat (first | refine blk_drewN ?_ _ | refine blk_drew ?_ | refine blk_alloc ?_ _)); exact BK102.out) hb)
                 have n6_ := Aside0.mk (blk_below (g := gb122) (o := .cells #[.int .i64 ((rd_T56 l0_0 x73_4).f0), .bool ((rd_T56 l0_0 x73_4).f1), .string ((rd_T56 l0_0 x73_4).f2)] 56 (0, 0)) (by (with_reducible repeat (first | refine blk_drewN ?_ _ | refine blk_drew ?_ | refine blk_alloc ?_ _)); exact BK122.out) hb)
                 have n7_ := Aside0.mk (below_step (by repeat (first | (with_reducible first | exact HB.out | apply below_alloc | apply pw_below_drewN | apply below_drew1 | refine below_set ?_ GE101.out | refine below_set ?_ GE102.out | refine below_set ?_ GE122.out) | exact HB.out)) hb)
                 clear HO_15
                 clear HO136
                 clear HO128
                 clear BK101
                 clear BK102
                 clear BK122
                 clear HB
                 clear HO125
                 clear HO131
                 clear HO_9
                 have HO_15 := n0_
                 have HO136 := n1_
                 have HO128 := n2_
                 have HO139 := n3_
                 have BK101 := n4_
                 have BK102 := n5_
                 have BK122 := n6_
                 have HB := n7_
                 clear n0_ n1_ n2_ n3_ n4_ n5_ n6_ n7_
                 clear hb ho73
                 obtain ⟨Ao74, co74, eo74⟩ := Kd.N_slice HO139.out
                 (first | subst eo74 | (injection eo74 with f1_ f2_ f3_; have f4_ := f1_.symm; have f5_ := f3_.symm; clear f1_ f2_ f3_; subst f4_; subst f5_))
                 refine hK.out _ _ ⟨(blk_cell BK122.out 0).trans rfl, (blk_cell BK122.out 1).trans rfl, (blk_cell BK122.out 2).trans rfl⟩ (fun hHeld => ?_)
                 clear hK K
                 refine norm_ (a' := ?_) ?_ ?_
                 rotate_left
                 ·
                  show Act.put _ (some 92) _ = _
                  simp only [Act.put, List.setIfInBounds_toArray, List.set_cons_zero, List.set_cons_succ, i64_w, i32_w]
                  rfl
                 refine one_ (i := 15) (N := some 93) #[true, true, true, true, true, true, true, true, true, true, true, true, true, true, true, true, false] rfl rfl (one_of HT_.out (by kernel_rfl)) (by decide) (fun K hK => ?_)
                 refine goes_ Try.func28 (by kernel_rfl) rfl #[.slice Ao74 y137.length co74] (by rfl) rfl rfl (by (try simp only [List.map_toArray, List.map_cons, List.map_nil]); first | done | rfl | (simp only [List.length_drop, List.length_take]; rfl)) ?_
                 with_reducible refine (slices_Concat_byte_byte.calls _ _ y137 t140 _ ?side1 ?side2 A54.out).mono ?_
                 (case side1 => repeat (first | exact (Kd.N_reads' HO139.out).2.2 | (with_reducible refine Kd.C_alloc ?_ _) | (with_reducible refine Kd.C_drewN ?_ _) | (with_reducible refine Kd.C_drew ?_)))
                 (case side2 => exact (Kd.N_reads' HO139.out).2.1)
                 rintro e w75 ⟨v141, rfl, ho0, hb⟩
                 refine ⟨_, rfl, ?_⟩
                 have n0_ := Aside0.mk (Kd.R_elder' (by (with_reducible repeat (first | apply Kd.R_alloc | apply Kd.R_drewN | apply Kd.R_drew)); exact HO_15.out) (Kd.R_base ho0) hb)
                 have n1_ := Aside0.mk (Kd.V_elder' (by (with_reducible repeat (first | apply Kd.V_alloc | apply Kd.V_drewN | apply Kd.V_drew)); exact HO136.out) (Kd.R_base ho0) hb)
                 have n2_ := Aside0.mk (Kd.R_below (by (with_reducible repeat (first | apply Kd.R_alloc | apply Kd.R_drewN | apply Kd.R_drew)); exact HO128.out) hb)
                 have n3_ := Aside0.mk (Kd.N_elder' (by (with_reducible repeat (first | apply Kd.N_alloc | apply Kd.N_drewN | apply Kd.N_drew)); exact HO139.out) (Kd.R_base ho0) hb)
                 have n4_ := Aside0.mk (Kd.R_lower (Kd.R_new' ho0 (Kd.R_lt (by (with_reducible repeat (first | apply Kd.R_alloc | apply Kd.R_drewN | apply Kd.R_drew)); exact HO_15.out))) (below_size (by repeat (first | (with_reducible first | exact HB.out | apply below_alloc | apply pw_below_drewN | apply below_drew1 | refine below_set ?_ GE101.out | refine below_set ?_ GE102.out | refine below_set ?_ GE122.out) | exact HB.out))))
                 have n5_ := Aside0.mk (blk_below (g := gb101) (o := .cells #[.slice (some ad121) l0_0.length c0_0, .slice A0_1 l0_1.length c0_1, .slice A0_2 l0_2.length c0_2, .slice A0_3 l0_3.length c0_3, .slice A0_4 l0_4.length c0_4] 27 (0, 0)) (by (with_reducible repeat (first | refine blk_drewN ?_ _ | refine blk_drew ?_ | refine blk_alloc ?_ _)); exact BK101.out) hb)
                 have n6_ := Aside0.mk (blk_below (g := gb102) (o := .cells #[.int .i64 0, .int .i64 0, .int .i64 0, .int .i64 0, .int .i64 0, .int .i64 0, .int .i64 0] 35 (0, 0)) (by (with_reducible repeat (first | refine blk_drewN ?_ _ | refine blk_drew ?_ | refine blk_alloc ?_ _)); exact BK102.out) hb)
                 have n7_ := Aside0.mk (blk_below (g := gb122) (o := .cells #[.int .i64 ((rd_T56 l0_0 x73_4).f0), .bool ((rd_T56 l0_0 x73_4).f1), .string ((rd_T56 l0_0 x73_4).f2)] 56 (0, 0)) (by (with_reducible repeat (first | refine blk_drewN ?_ _ | refine blk_drew ?_ | refine blk_alloc ?_ _)); exact BK122.out) hb)
                 have n8_ := Aside0.mk (below_step (by repeat (first | (with_reducible first | exact HB.out | apply below_alloc | apply pw_below_drewN | apply below_drew1 | refine below_set ?_ GE101.out | refine below_set ?_ GE102.out | refine below_set ?_ GE122.out) | exact HB.out)) hb)
                 clear HO_15
                 clear HO136
                 clear HO128
                 clear HO139
                 clear BK101
                 clear BK102
                 clear BK122
                 clear HB
                 have HO_15 := n0_
                 have HO136 := n1_
                 have HO128 := n2_
                 have HO139 := n3_
                 have HO142 := n4_
                 have BK101 := n5_
                 have BK102 := n6_
                 have BK122 := n7_
                 have HB := n8_
                 clear n0_ n1_ n2_ n3_ n4_ n5_ n6_ n7_ n8_
                 (try clear hb)
                 (try clear hb2)
                 (try clear hk)
                 (try clear hi)
                 (try clear ho0)
                 refine hK.out _ _ ⟨(blk_cell BK122.out 0).trans rfl, (blk_cell BK122.out 1).trans rfl, (blk_cell BK122.out 2).trans rfl⟩ (fun hHeld => ?_)
                 clear hK K
                 refine norm_ (a' := ?_) ?_ ?_
                 rotate_left
                 ·
                  show Act.put _ (some 93) _ = _
                  simp only [Act.put, List.setIfInBounds_toArray, List.set_cons_zero, List.set_cons_succ, i64_w, i32_w]
                  rfl
                 refine pure_ (i := 16) (N := some 9) (v := ?_) (a' := ?_) #[true, true, true, true, true, true, true, true, true, true, true, true, true, true, true, true, true] rfl rfl (any_of HT_.out (by kernel_rfl)) (fun _ _ _ h => h) (Or.inl ⟨by rfl, ?_⟩) ?_ ?_
                 rotate_left
                 ·
                  intro w'
                  go_simp
                  with_reducible rfl
                 rotate_left
                 ·
                  simp only [Act.put, List.setIfInBounds_toArray, List.set_cons_zero, List.set_cons_succ, i64_w, i32_w]
                  rfl
                 refine done_ (done_of HT_.out (by kernel_rfl)) ?_
                 try go_wp2
                 go_roundg k4
                 case measure => have := HJ3.out; have := HK2.out; have := HK3.out; have := HK4.out; omega
                 case rel => exact ⟨(t140), (wrap64 (x73_4 + 1)), (by first | rfl | (simp; done) | (simp [*]; done)), H', ⟨by have := HJ3.out; have := HK2.out; have := HK3.out; have := HK4.out; omega⟩, ⟨by (with_reducible repeat (first | apply Kd.R_alloc | apply Kd.R_drewN | apply Kd.R_drew)); exact Kd.R_mono HO142.out (fun _ hk => hk.2)⟩, ⟨by (with_reducible repeat (first | apply Kd.R_alloc | apply Kd.R_drewN | apply Kd.R_drew)); exact Kd.R_mono HO_15.out (fun _ hk => hk.2)⟩, ⟨by (with_reducible repeat (first | refine blk_drewN ?_ _ | refine blk_drew ?_ | refine blk_alloc ?_ _)); exact BK101.out⟩, ⟨by (with_reducible repeat (first | refine blk_drewN ?_ _ | refine blk_drew ?_ | refine blk_alloc ?_ _)); exact BK102.out⟩, ⟨by repeat (first | (with_reducible first | exact HB.out | apply below_alloc | apply pw_below_drewN | apply below_drew1 | refine below_set ?_ GE101.out | refine below_set ?_ GE102.out | refine below_set ?_ GE122.out) | exact HB.out)⟩⟩
                ·
                 rw [if_neg c53] at H
                 exact absurd H (by simp)
               ·
                rw [if_neg c52] at H
                exact absurd H (by simp)
              ·
               rw [if_neg c48] at H
               exact absurd H (by simp)
             ·
              rw [if_neg c47] at H
              exact absurd H (by simp)
            ·
             rw [if_neg c46] at H
             have c46b0 : decide (x73_4 < (l0_0.length : Int)) = false := decide_eq_false c46
             clear c46
             by_cases c76 : x9_4.length + t117.size < 140737488355328
             ·
              rw [if_pos c76] at H
              have LMc76 := Aside0.mk c76
              clear c76
              obtain ⟨y143, hy143⟩ : ∃ y_ : List Int, y_ = (x9_4 ++ bytesOf t117) := ⟨_, rfl⟩
              replace H : (block_Encode.l3 k4 a1 a2 y143 t117 l0_2 (l0_2.length : Int) 0 l0_0 l0_1 l0_2 l0_3 l0_4) = some (r1, r2, r3, r4, r5, r6, r7, r8, r9) := by first | (rw [hy143]; with_reducible exact H) | (have H2_ := (Option.bind_some _ _).symm.trans H; rw [hy143]; with_reducible exact H2_) | (have H2_ := (Option.bind_some _ _).symm.trans H; with_reducible exact H2_) | with_reducible exact H | (rw [hy143]; exact H) | exact H
              have Ny143 := Aside0.mk hy143
              clear hy143
              have H' := Aside0.mk H
              clear H
              go_wp2_with (first | (at_builtin; refine print_append_str (w0 := w) w.heap.size rfl (.tmp 95) _ 33 9 5 rfl Try.underlying33 Try.underlying9 info5 u9 x9_4 t117 rfl rfl ?aO ?aB ?aS ?aL ?_; (case aB => exact (by repeat (first | (with_reducible first | exact HB.out | apply below_alloc | apply pw_below_drewN | apply below_drew1 | refine below_set ?_ GE101.out | refine below_set ?_ GE102.out) | exact HB.out))); (case aO => exact (Kd.own_of_R (by (with_reducible repeat (first | apply Kd.R_alloc | apply Kd.R_drewN | apply Kd.R_drew)); exact HO_9.out))); (case aS => exact (below_size (by repeat (first | (with_reducible first | exact HB.out | apply below_alloc | apply pw_below_drewN | apply below_drew1 | refine below_set ?_ GE101.out | refine below_set ?_ GE102.out) | exact HB.out)))); (case aL => have := LMc76.out; omega); intro v144 w77 ho0 hb hg; have ho := Kd.R_of_own (h1 := fun _ => rfl) (ok := fun _ => True) ho0 (fun _ _ => trivial); clear ho0; have hat := True.intro; rw [← Ny143.out] at ho; change Kd.R (Kd.int .u8) 5 w77 w.heap.size (fun _ => True) v144 y143 at ho; have n0_ := Aside0.mk True.intro; have n1_ := Aside0.mk (blk_grown (g := gb101) (o := .cells #[.slice A0_0 l0_0.length c0_0, .slice A0_1 l0_1.length c0_1, .slice A0_2 l0_2.length c0_2, .slice A0_3 l0_3.length c0_3, .slice A0_4 l0_4.length c0_4] 27 (0, 0)) (by (with_reducible repeat (first | refine blk_drewN ?_ _ | refine blk_drew ?_ | refine blk_alloc ?_ _)); exact BK101.out) hg (Kd.R_ne HO_9.out BK101.out (by decide))); have n2_ := Aside0.mk (blk_grown (g := gb102) (o := .cells #[.int .i64 0, .int .i64 0, .int .i64 0, .int .i64 0, .int .i64 0, .int .i64 0, .int .i64 0] 35 (0, 0)) (by (with_reducible repeat (first | refine blk_drewN ?_ _ | refine blk_drew ?_ | refine blk_alloc ?_ _)); exact BK102.out) hg (Kd.R_ne HO_9.out BK102.out (by decide))); have n3_ := Aside0.mk (hb); have n4_ := Aside0.mk (ho); clear HO_15; clear BK101; clear BK102; clear HB; clear HO_9; have HO_15 := n0_; have BK101 := n1_; have BK102 := n2_; have HB := n3_; have HO145 := n4_; clear n0_ n1_ n2_ n3_ n4_; clear ho hb hg hat; have hnb78 := NB101_102.out; have hnc78 := NB102_101.out; have hcz79_0 : w77.cell? ⟨gb101, 0, none⟩ = some (.slice A0_0 l0_0.length c0_0) := (blk_cell BK101.out 0).trans rfl; have hcz79_1 : w77.cell? ⟨gb101, 1, none⟩ = some (.slice A0_1 l0_1.length c0_1) := (blk_cell BK101.out 1).trans rfl; have hcz79_2 : w77.cell? ⟨gb101, 2, none⟩ = some (.slice A0_2 l0_2.length c0_2) := (blk_cell BK101.out 2).trans rfl; have hcz79_3 : w77.cell? ⟨gb101, 3, none⟩ = some (.slice A0_3 l0_3.length c0_3) := (blk_cell BK101.out 3).trans rfl; have hcz79_4 : w77.cell? ⟨gb101, 4, none⟩ = some (.slice A0_4 l0_4.length c0_4) := (blk_cell BK101.out 4).trans rfl; have hfz79_0 := blk_frozen BK101.out 0; have hfz79_1 := blk_frozen BK101.out 1; have hfz79_2 := blk_frozen BK101.out 2; have hfz79_3 := blk_frozen BK101.out 3; have hfz79_4 := blk_frozen BK101.out 4))
              go_loopg [9, 101] k4 (fun kq v9 v101 w' => ∃ (x9_5 : List Int) (x101_5 : Int), v101 = .int .i64 x101_5 ∧ Aside0 (block_Encode.l3 kq a1 a2 x9_5 t117 l0_2 (l0_2.length : Int) x101_5 l0_0 l0_1 l0_2 l0_3 l0_4 = some (r1, r2, r3, r4, r5, r6, r7, r8, r9)) ∧ Aside0 (kq ≤ k4) ∧ Aside0 (Kd.R (Kd.int .u8) 5 w' w.heap.size (fun _ => True) v9 x9_5) ∧ Aside0 (w'.heap[gb101]? = some (.cells #[(.slice A0_0 l0_0.length c0_0), (.slice A0_1 l0_1.length c0_1), (.slice A0_2 l0_2.length c0_2), (.slice A0_3 l0_3.length c0_3), (.slice A0_4 l0_4.length c0_4)] 27 (0, 0))) ∧ Aside0 (w'.heap[gb102]? = some (.cells #[.int .i64 0, .int .i64 0, .int .i64 0, .int .i64 0, .int .i64 0, .int .i64 0, .int .i64 0] 35 (0, 0))) ∧ Aside0 (Below w.heap.size w w'))
              case atStart => exact ⟨(y143), (0), (by first | rfl | (simp; done) | (simp [*]; done)), H', ⟨Nat.le_refl _⟩, ⟨by (with_reducible repeat (first | apply Kd.R_alloc | apply Kd.R_drewN | apply Kd.R_drew)); exact Kd.R_mono HO145.out (fun _ hk => trivial)⟩, ⟨by (with_reducible repeat (first | refine blk_drewN ?_ _ | refine blk_drew ?_ | refine blk_alloc ?_ _)); exact BK101.out⟩, ⟨by (with_reducible repeat (first | refine blk_drewN ?_ _ | refine blk_drew ?_ | refine blk_alloc ?_ _)); exact BK102.out⟩, ⟨by repeat (first | (with_reducible first | exact HB.out | apply below_alloc | apply pw_below_drewN | apply below_drew1 | refine below_set ?_ GE101.out | refine below_set ?_ GE102.out) | exact HB.out)⟩⟩
              case round =>
               clear H'
               try clear c1
               try clear p1
               try clear q1
               try clear hx1
               try clear c2
               try clear p2
               try clear c4
               try clear c5
               try clear c6
               try clear p6
               try clear q6
               try clear c7
               try clear p12
               try clear q12
               try clear hx12
               try clear c26
               try clear c28
               try clear c29
               try clear c46
               try clear c46b0
               try clear c47
               try clear c47b0
               try clear c48
               try clear c48b0
               try clear c51
               try clear c51b0
               try clear c52
               try clear c52b0
               try clear c52b1
               try clear c53
               try clear c53b0
               try clear c53b1
               try clear c56
               try clear c57
               try clear c61
               try clear q61
               try clear p64
               try clear c76
               try clear c78
               try clear hcz58_0
               try clear hcz58_1
               try clear hcz58_2
               try clear hcz79_0
               try clear hcz79_1
               try clear hcz79_2
               try clear hcz79_3
               try clear hcz79_4
               try clear hfz58_0
               try clear hfz58_1
               try clear hfz58_2
               try clear hfz79_0
               try clear hfz79_1
               try clear hfz79_2
               try clear hfz79_3
               try clear hfz79_4
               try clear hx121_0
               try clear hx121_1
               try clear hx121_2
               try clear p121
               try clear q061
               try clear q121
               try clear q61
               obtain ⟨x9_5, x101_5, rfl, HA, HK5, HO_9, BK101, BK102, HB⟩ := hrel
               cases gk with
               | zero => exact absurd HA.out (by simp [block_Encode.l3])
               | succ k5 =>
                have H := HA.out
                clear HA
                simp only [block_Encode.l3] at H
                by_cases c80 : x101_5 < (l0_2.length : Int)
                ·
                 rw [if_pos c80] at H
                 have c80b0 : decide (x101_5 < (l0_2.length : Int)) = true := decide_eq_true c80
                 clear c80
                 by_cases c81 : 0 ≤ x101_5
                 ·
                  rw [if_pos c81] at H
                  have c81b0 : decide (0 ≤ x101_5) = true := decide_eq_true c81
                  clear c81
                  by_cases c82 : x101_5 < (l0_2.length : Int)
                  ·
                   rw [if_pos c82] at H
                   have c82b0 : decide (x101_5 < (l0_2.length : Int)) = true := decide_eq_true c82
                   clear c82
                   replace H := Option.bind_eq_some_iff.mp H
                   obtain ⟨t148, A830, H⟩ := H
                   replace H : ((octets_Put.f t148 4 (IntKind.u64.wrap ((rd_T67 l0_2 x101_5).f1))).bind fun t151 => (if x9_5.length + t151.length < 140737488355328 then (block_Encode.l3 k5 a1 a2 (x9_5 ++ t151) t117 l0_2 (l0_2.length : Int) (wrap64 (x101_5 + 1)) l0_0 l0_1 l0_2 l0_3 l0_4) else (none))) = some (r1, r2, r3, r4, r5, r6, r7, r8, r9) := H
                   have A83 := Aside0.mk A830
                   clear A830
                   replace H := Option.bind_eq_some_iff.mp H
                   obtain ⟨t151, A840, H⟩ := H
                   replace H : (if x9_5.length + t151.length < 140737488355328 then (block_Encode.l3 k5 a1 a2 (x9_5 ++ t151) t117 l0_2 (l0_2.length : Int) (wrap64 (x101_5 + 1)) l0_0 l0_1 l0_2 l0_3 l0_4) else (none)) = some (r1, r2, r3, r4, r5, r6, r7, r8, r9) := H
                   have A84 := Aside0.mk A840
                   clear A840
                   by_cases c85 : x9_5.length + t151.length < 140737488355328
                   ·
                    rw [if_pos c85] at H
                    have LMc85 := Aside0.mk c85
                    clear c85
                    obtain ⟨y154, hy154⟩ : ∃ y_ : List Int, y_ = (x9_5 ++ t151) := ⟨_, rfl⟩
                    replace H : (block_Encode.l3 k5 a1 a2 y154 t117 l0_2 (l0_2.length : Int) (wrap64 (x101_5 + 1)) l0_0 l0_1 l0_2 l0_3 l0_4) = some (r1, r2, r3, r4, r5, r6, r7, r8, r9) := by first | (rw [hy154]; with_reducible exact H) | (have H2_ := (Option.bind_some _ _).symm.trans H; rw [hy154]; with_reducible exact H2_) | (have H2_ := (Option.bind_some _ _).symm.trans H; with_reducible exact H2_) | with_reducible exact H | (rw [hy154]; exact H) | exact H
                    have Ny154 := Aside0.mk hy154
                    clear hy154
                    have H' := Aside0.mk H
                    clear H
                    have p146 : 0 ≤ (x101_5 : Int) := of_decide_eq_true (by first | (with_reducible assumption) | assumption)
                    have q146 : x101_5 < (l0_2.length : Int) := of_decide_eq_true (by first | (with_reducible assumption) | assumption)
                    obtain ⟨ad146, e146, hx146_0, hx146_1⟩ := at_T67 HR0_2.out x101_5 p146 q146
                    cases e146
                    replace hx146_0 := (HB.out.cell (World.block_lt_of_cell? w _ hx146_0)).trans hx146_0
                    replace hx146_1 := (HB.out.cell (World.block_lt_of_cell? w _ hx146_1)).trans hx146_1
                    replace p146 := eq_true p146
                    replace q146 := eq_true q146
                    try go_wp2_with (first | ((with_reducible refine gate_dst (N := 19) rfl ?_); refine box_event ?hg (N := 19) ?hd (cs := #[.int .i64 0, .int .i64 0]) (t := 67) ?hr ?_; (case hd => rfl); (case hg => rfl); (case hr => first | (go_simp; done) | (go_simp; rfl)); intro gb147 hg w86 hbox hb; have n0_ := Aside0.mk (Kd.R_below (by (with_reducible repeat (first | apply Kd.R_alloc | apply Kd.R_drewN | apply Kd.R_drew)); exact HO_9.out) hb); have n1_ := Aside0.mk (blk_below (g := gb101) (o := .cells #[.slice A0_0 l0_0.length c0_0, .slice A0_1 l0_1.length c0_1, .slice (some ad146) l0_2.length c0_2, .slice A0_3 l0_3.length c0_3, .slice A0_4 l0_4.length c0_4] 27 (0, 0)) (by (with_reducible repeat (first | refine blk_drewN ?_ _ | refine blk_drew ?_ | refine blk_alloc ?_ _)); exact BK101.out) hb); have n2_ := Aside0.mk (blk_below (g := gb102) (o := .cells #[.int .i64 0, .int .i64 0, .int .i64 0, .int .i64 0, .int .i64 0, .int .i64 0, .int .i64 0] 35 (0, 0)) (by (with_reducible repeat (first | refine blk_drewN ?_ _ | refine blk_drew ?_ | refine blk_alloc ?_ _)); exact BK102.out) hb); have n3_ := Aside0.mk (below_step (by repeat (first | (with_reducible first | exact HB.out | apply below_alloc | apply pw_below_drewN | apply below_drew1 | refine below_set ?_ GE101.out | refine below_set ?_ GE102.out) | exact HB.out)) hb); have n4_ := Aside0.mk (hbox); have n5_ := Aside0.mk ((by rw [hg]; exact (below_size (by repeat (first | (with_reducible first | exact HB.out | apply below_alloc | apply pw_below_drewN | apply below_drew1 | refine below_set ?_ GE101.out | refine below_set ?_ GE102.out) | exact HB.out))) : w.heap.size ≤ gb147)); have n6_ := Aside0.mk ((by rw [hg]; exact (below_size (by repeat (first | (with_reducible first | exact HB.out | apply below_alloc | apply pw_below_drewN | apply below_drew1 | refine below_set ?_ GE101.out | refine below_set ?_ GE102.out) | exact HB.out))) : w.heap.size ≤ gb147)); have n7_ := Aside0.mk ((by rw [hg]; exact Nat.ne_of_lt (blk_lt (g := gb101) (o := .cells #[.slice A0_0 l0_0.length c0_0, .slice A0_1 l0_1.length c0_1, .slice (some ad146) l0_2.length c0_2, .slice A0_3 l0_3.length c0_3, .slice A0_4 l0_4.length c0_4] 27 (0, 0)) (by (with_reducible repeat (first | refine blk_drewN ?_ _ | refine blk_drew ?_ | refine blk_alloc ?_ _)); exact BK101.out)) : gb101 ≠ gb147)); have n8_ := Aside0.mk ((by rw [hg]; exact Nat.ne_of_gt (blk_lt (g := gb101) (o := .cells #[.slice A0_0 l0_0.length c0_0, .slice A0_1 l0_1.length c0_1, .slice (some ad146) l0_2.length c0_2, .slice A0_3 l0_3.length c0_3, .slice A0_4 l0_4.length c0_4] 27 (0, 0)) (by (with_reducible repeat (first | refine blk_drewN ?_ _ | refine blk_drew ?_ | refine blk_alloc ?_ _)); exact BK101.out)) : gb147 ≠ gb101)); have n9_ := Aside0.mk ((by rw [hg]; exact Nat.ne_of_lt (blk_lt (g := gb102) (o := .cells #[.int .i64 0, .int .i64 0, .int .i64 0, .int .i64 0, .int .i64 0, .int .i64 0, .int .i64 0] 35 (0, 0)) (by (with_reducible repeat (first | refine blk_drewN ?_ _ | refine blk_drew ?_ | refine blk_alloc ?_ _)); exact BK102.out)) : gb102 ≠ gb147)); have n10_ := Aside0.mk ((by rw [hg]; exact Nat.ne_of_gt (blk_lt (g := gb102) (o := .cells #[.int .i64 0, .int .i64 0, .int .i64 0, .int .i64 0, .int .i64 0, .int .i64 0, .int .i64 0] 35 (0, 0)) (by (with_reducible repeat (first | refine blk_drewN ?_ _ | refine blk_drew ?_ | refine blk_alloc ?_ _)); exact BK102.out)) : gb147 ≠ gb102)); clear HO_9; clear BK101; clear BK102; clear HB; have HO_9 := n0_; have BK101 := n1_; have BK102 := n2_; have HB := n3_; have BK147 := n4_; have GW147 := n5_; have GE147 := n6_; have NB101_147 := n7_; have NB147_101 := n8_; have NB102_147 := n9_; have NB147_102 := n10_; clear n0_ n1_ n2_ n3_ n4_ n5_ n6_ n7_ n8_ n9_ n10_; clear hb hbox hg; have hnb87 := NB147_101.out; have hnc87 := NB101_147.out; have hnb88 := NB147_102.out; have hnc88 := NB102_147.out; have hcz89_0 : w86.cell? ⟨gb147, 0, none⟩ = some (.int .i64 0) := (blk_cell BK147.out 0).trans rfl; have hcz89_1 : w86.cell? ⟨gb147, 1, none⟩ = some (.int .i64 0) := (blk_cell BK147.out 1).trans rfl; have hfz89_0 := blk_frozen BK147.out 0; have hfz89_1 := blk_frozen BK147.out 1))
                    have n0_ : Aside0 (Kd.R (Kd.int .u8) 5 ((w86.setCell ⟨gb147, 0, none⟩ (.int .i64 ((rd_T67 l0_2 x101_5).f0))).setCell ⟨gb147, 1, none⟩ (.int .i64 ((rd_T67 l0_2 x101_5).f1))) w.heap.size (fun _ => True) u9 x9_5) := ⟨by (with_reducible repeat (first | apply Kd.R_alloc | apply Kd.R_drewN | apply Kd.R_drew)); exact Kd.R_mono (Kd.R_far (p := ⟨gb147, 1, none⟩) (Kd.R_far (p := ⟨gb147, 0, none⟩) (Kd.R_types HO_9.out BK147.out (by decide)) (fun _ hk => hk.2) (.int .i64 ((rd_T67 l0_2 x101_5).f0))) (fun _ hk => hk.2) (.int .i64 ((rd_T67 l0_2 x101_5).f1))) (fun _ hk => trivial)⟩
                    have n1_ : Aside0 (((w86.setCell ⟨gb147, 0, none⟩ (.int .i64 ((rd_T67 l0_2 x101_5).f0))).setCell ⟨gb147, 1, none⟩ (.int .i64 ((rd_T67 l0_2 x101_5).f1))).heap[gb101]? = some (.cells #[.slice A0_0 l0_0.length c0_0, .slice A0_1 l0_1.length c0_1, .slice (some ad146) l0_2.length c0_2, .slice A0_3 l0_3.length c0_3, .slice A0_4 l0_4.length c0_4] 27 (0, 0))) := ⟨by (with_reducible repeat (first | refine blk_drewN ?_ _ | refine blk_drew ?_ | refine blk_alloc ?_ _)); refine blk_far ?_ NB101_147.out _; (with_reducible repeat (first | refine blk_drewN ?_ _ | refine blk_drew ?_ | refine blk_alloc ?_ _)); refine blk_far ?_ NB101_147.out _; (with_reducible repeat (first | refine blk_drewN ?_ _ | refine blk_drew ?_ | refine blk_alloc ?_ _)); exact BK101.out⟩
                    have n2_ : Aside0 (((w86.setCell ⟨gb147, 0, none⟩ (.int .i64 ((rd_T67 l0_2 x101_5).f0))).setCell ⟨gb147, 1, none⟩ (.int .i64 ((rd_T67 l0_2 x101_5).f1))).heap[gb102]? = some (.cells #[.int .i64 0, .int .i64 0, .int .i64 0, .int .i64 0, .int .i64 0, .int .i64 0, .int .i64 0] 35 (0, 0))) := ⟨by (with_reducible repeat (first | refine blk_drewN ?_ _ | refine blk_drew ?_ | refine blk_alloc ?_ _)); refine blk_far ?_ NB102_147.out _; (with_reducible repeat (first | refine blk_drewN ?_ _ | refine blk_drew ?_ | refine blk_alloc ?_ _)); refine blk_far ?_ NB102_147.out _; (with_reducible repeat (first | refine blk_drewN ?_ _ | refine blk_drew ?_ | refine blk_alloc ?_ _)); exact BK102.out⟩
                    have n3_ : Aside0 (((w86.setCell ⟨gb147, 0, none⟩ (.int .i64 ((rd_T67 l0_2 x101_5).f0))).setCell ⟨gb147, 1, none⟩ (.int .i64 ((rd_T67 l0_2 x101_5).f1))).heap[gb147]? = some (.cells #[.int .i64 ((rd_T67 l0_2 x101_5).f0), .int .i64 ((rd_T67 l0_2 x101_5).f1)] 67 (0, 0))) := ⟨by (with_reducible repeat (first | refine blk_drewN ?_ _ | refine blk_drew ?_ | refine blk_alloc ?_ _)); refine blk_put (cs := #[.int .i64 ((rd_T67 l0_2 x101_5).f0), .int .i64 0]) ?_ 1 _ rfl; (with_reducible repeat (first | refine blk_drewN ?_ _ | refine blk_drew ?_ | refine blk_alloc ?_ _)); refine blk_put (cs := #[.int .i64 0, .int .i64 0]) ?_ 0 _ rfl; (with_reducible repeat (first | refine blk_drewN ?_ _ | refine blk_drew ?_ | refine blk_alloc ?_ _)); exact BK147.out⟩
                    have n4_ : Aside0 (Below w.heap.size w ((w86.setCell ⟨gb147, 0, none⟩ (.int .i64 ((rd_T67 l0_2 x101_5).f0))).setCell ⟨gb147, 1, none⟩ (.int .i64 ((rd_T67 l0_2 x101_5).f1)))) := ⟨by repeat (first | (with_reducible first | exact HB.out | apply below_alloc | apply pw_below_drewN | apply below_drew1 | refine below_set ?_ GE101.out | refine below_set ?_ GE102.out | refine below_set ?_ GE147.out) | exact HB.out)⟩
                    (try clear HO_9)
                    (try clear BK101)
                    (try clear BK102)
                    (try clear BK147)
                    (try clear HB)
                    generalize ((w86.setCell ⟨gb147, 0, none⟩ (.int .i64 ((rd_T67 l0_2 x101_5).f0))).setCell ⟨gb147, 1, none⟩ (.int .i64 ((rd_T67 l0_2 x101_5).f1))) = w90 at n0_ n1_ n2_ n3_ n4_ ⊢
                    have HO_9 := n0_
                    have BK101 := n1_
                    have BK102 := n2_
                    have BK147 := n3_
                    have HB := n4_
                    clear n0_ n1_ n2_ n3_ n4_
                    have n0_ := Aside0.mk (Kd.R_drew HO_9.out)
                    have n1_ := Aside0.mk (blk_drew BK101.out)
                    have n2_ := Aside0.mk (blk_drew BK102.out)
                    have n3_ := Aside0.mk (blk_drew BK147.out)
                    have n4_ := Aside0.mk (below_drew1 HB.out)
                    clear HO_9
                    clear BK101
                    clear BK102
                    clear BK147
                    clear HB
                    have HO_9 := n0_
                    have BK101 := n1_
                    have BK102 := n2_
                    have BK147 := n3_
                    have HB := n4_
                    clear n0_ n1_ n2_ n3_ n4_
                    refine start_ (n := 12) (S := fun w' => w'.cell? ⟨gb147, 0, none⟩ = some (.int .i64 ((rd_T67 l0_2 x101_5).f0)) ∧ w'.cell? ⟨gb147, 1, none⟩ = some (.int .i64 ((rd_T67 l0_2 x101_5).f1))) (ds := []) #[false, false, false, false, false, false, false, false, false, false, false, false] (by kernel_rfl) rfl rfl ⟨(blk_cell BK147.out 0).trans rfl, (blk_cell BK147.out 1).trans rfl⟩ (fun hHeld => ?_); refine with_tabW block_Encode.tab24 block_Encode.bits24 (fun HT_ HW_ => ?_)
                    generalize w90.drew = w91 at HO_9 BK101 BK102 BK147 HB hHeld ⊢
                    refine pure_ (i := 0) (N := some 105) (v := ?_) (a' := ?_) #[true, false, false, false, false, false, false, false, false, false, false, false] rfl rfl (any_of HT_.out (by kernel_rfl)) (fun _ _ _ h => h) (Or.inl ⟨by rfl, ?_⟩) ?_ ?_
                    rotate_left
                    ·
                     intro w'
                     go_simp
                     with_reducible rfl
                    rotate_left
                    ·
                     simp only [Act.put, List.setIfInBounds_toArray, List.set_cons_zero, List.set_cons_succ, i64_w, i32_w]
                     rfl
                    refine pure_ (i := 1) (N := some 106) (v := ?_) (a' := ?_) #[true, true, false, false, false, false, false, false, false, false, false, false] rfl rfl (any_of HT_.out (by kernel_rfl)) (fun _ _ _ h => h) (Or.inl ⟨by rfl, ?_⟩) ?_ ?_
                    rotate_left
                    ·
                     intro w'
                     go_simp
                     with_reducible rfl
                    rotate_left
                    ·
                     simp only [Act.put, List.setIfInBounds_toArray, List.set_cons_zero, List.set_cons_succ, i64_w, i32_w]
                     rfl
                    refine pure_ (i := 2) (N := some 107) (v := ?_) (a' := ?_) #[true, true, true, false, false, false, false, false, false, false, false, false] rfl rfl (any_of HT_.out (by kernel_rfl)) (fun _ _ _ h => h) (Or.inl ⟨by rfl, ?_⟩) ?_ ?_
                    rotate_left
                    ·
                     intro w'
                     go_simp
                     with_reducible rfl
                    rotate_left
                    ·
                     simp only [Act.put, List.setIfInBounds_toArray, List.set_cons_zero, List.set_cons_succ, i64_w, i32_w]
                     rfl
                    refine pure_ (i := 6) (N := some 111) (v := ?_) (a' := ?_) #[true, true, true, false, false, false, true, false, false, false, false, false] rfl rfl (any_of HT_.out (by kernel_rfl)) (fun _ _ _ h => h) (Or.inl ⟨by rfl, ?_⟩) ?_ ?_
                    rotate_left
                    ·
                     intro w'
                     go_simp
                     with_reducible rfl
                    rotate_left
                    ·
                     simp only [Act.put, List.setIfInBounds_toArray, List.set_cons_zero, List.set_cons_succ, i64_w, i32_w]
                     rfl
                    refine take_ (i := 3) (N := some 108) (v := ?_) (a' := ?_) #[true, true, true, true, false, false, true, false, false, false, false, false] rfl rfl (take_ofW HT_.out HW_.out (by kernel_rfl)) (fun _ _ _ h => h) (Or.inl ⟨by rfl, ?_⟩) hHeld ?_ ?_
                    rotate_left
                    ·
                     rintro w' ⟨s0, s1⟩
                     go_simp
                     with_reducible rfl
                    rotate_left
                    ·
                     simp only [Act.put, List.setIfInBounds_toArray, List.set_cons_zero, List.set_cons_succ, i64_w, i32_w]
                     rfl
                    refine pure_ (i := 4) (N := some 109) (v := ?_) (a' := ?_) #[true, true, true, true, true, false, true, false, false, false, false, false] rfl rfl (any_of HT_.out (by kernel_rfl)) (fun _ _ _ h => h) (Or.inl ⟨by rfl, ?_⟩) ?_ ?_
                    rotate_left
                    ·
                     intro w'
                     go_simp
                     with_reducible rfl
                    rotate_left
                    ·
                     simp only [Act.put, List.setIfInBounds_toArray, List.set_cons_zero, List.set_cons_succ, i64_w, i32_w]
                     rfl
                    refine take_ (i := 7) (N := some 112) (v := ?_) (a' := ?_) #[true, true, true, true, true, false, true, true, false, false, false, false] rfl rfl (take_ofW HT_.out HW_.out (by kernel_rfl)) (fun _ _ _ h => h) (Or.inl ⟨by rfl, ?_⟩) hHeld ?_ ?_
                    rotate_left
                    ·
                     rintro w' ⟨s0, s1⟩
                     go_simp
                     with_reducible rfl
                    rotate_left
                    ·
                     simp only [Act.put, List.setIfInBounds_toArray, List.set_cons_zero, List.set_cons_succ, i64_w, i32_w]
                     rfl
                    refine pure_ (i := 8) (N := some 113) (v := ?_) (a' := ?_) #[true, true, true, true, true, false, true, true, true, false, false, false] rfl rfl (any_of HT_.out (by kernel_rfl)) (fun _ _ _ h => h) (Or.inl ⟨by rfl, ?_⟩) ?_ ?_
                    rotate_left
                    ·
                     intro w'
                     go_simp
                     with_reducible rfl
                    rotate_left
                    ·
                     simp only [Act.put, List.setIfInBounds_toArray, List.set_cons_zero, List.set_cons_succ, i64_w, i32_w]
                     rfl
                    refine one_ (i := 5) (N := some 110) #[true, true, true, true, true, true, true, true, true, false, false, false] rfl rfl (one_of HT_.out (by kernel_rfl)) (by decide) (fun K hK => ?_)
                    refine goes_ Try.func26 (by kernel_rfl) rfl #[.slice none 0 0, .int .i64 a1, .int .u64 (IntKind.u64.wrap ((rd_T67 l0_2 x101_5).f0))] (by rfl) rfl rfl (by (try simp only [List.map_toArray, List.map_cons, List.map_nil]); first | done | rfl | (simp only [List.length_drop, List.length_take]; rfl)) ?_
                    refine (octets_Put.calls _ _ ([] : List Int) a1 (IntKind.u64.wrap ((rd_T67 l0_2 x101_5).f0)) t148 _ ?side1 ?side2 A83.out).mono ?_
                    (case side1 => exact Kd.C_nil _ _)
                    (case side2 => exact Nat.le_refl _)
                    rintro e w92 ⟨v149, rfl, ho0, hb⟩
                    refine ⟨_, rfl, ?_⟩
                    have n0_ := Aside0.mk (Kd.R_elder' (by (with_reducible repeat (first | apply Kd.R_alloc | apply Kd.R_drewN | apply Kd.R_drew)); exact HO_9.out) (Kd.R_base ho0) hb)
                    have n1_ := Aside0.mk (Kd.R_lower (Kd.R_new' ho0 (Kd.R_lt (by (with_reducible repeat (first | apply Kd.R_alloc | apply Kd.R_drewN | apply Kd.R_drew)); exact HO_9.out))) (below_size (by repeat (first | (with_reducible first | exact HB.out | apply below_alloc | apply pw_below_drewN | apply below_drew1 | refine below_set ?_ GE101.out | refine below_set ?_ GE102.out | refine below_set ?_ GE147.out) | exact HB.out))))
                    have n2_ := Aside0.mk (blk_below (g := gb101) (o := .cells #[.slice A0_0 l0_0.length c0_0, .slice A0_1 l0_1.length c0_1, .slice (some ad146) l0_2.length c0_2, .slice A0_3 l0_3.length c0_3, .slice A0_4 l0_4.length c0_4] 27 (0, 0)) (by (with_reducible repeat (first | refine blk_drewN ?_ _ | refine blk_drew ?_ | refine blk_alloc ?_ _)); exact BK101.out) hb)
                    have n3_ := Aside0.mk (blk_below (g := gb102) (o := .cells #[.int .i64 0, .int .i64 0, .int .i64 0, .int .i64 0, .int .i64 0, .int .i64 0, .int .i64 0] 35 (0, 0)) (by (with_reducible repeat (first | refine blk_drewN ?_ _ | refine blk_drew ?_ | refine blk_alloc ?_ _)); exact BK102.out) hb)
                    have n4_ := Aside0.mk (blk_below (g := gb147) (o := .cells #[.int .i64 ((rd_T67 l0_2 x101_5).f0), .int .i64 ((rd_T67 l0_2 x101_5).f1)] 67 (0, 0)) (by (with_reducible repeat (first | refine blk_drewN ?_ _ | refine blk_drew ?_ | refine blk_alloc ?_ _)); exact BK147.out) hb)
                    have n5_ := Aside0.mk (below_step (by repeat (first | (with_reducible first | exact HB.out | apply below_alloc | apply pw_below_drewN | apply below_drew1 | refine below_set ?_ GE101.out | refine below_set ?_ GE102.out | refine below_set ?_ GE147.out) | exact HB.out)) hb)
                    clear HO_9
                    clear BK101
                    clear BK102
                    clear BK147
                    clear HB
                    have HO_9 := n0_
                    have HO150 := n1_
                    have BK101 := n2_
                    have BK102 := n3_
                    have BK147 := n4_
                    have HB := n5_
                    clear n0_ n1_ n2_ n3_ n4_ n5_
                    (try clear hb)
                    (try clear hb2)
                    (try clear hk)
                    (try clear hi)
                    (try clear ho0)
                    obtain ⟨Ao93, co93, eo93⟩ := Kd.R_slice HO150.out
                    (first | subst eo93 | (injection eo93 with f1_ f2_ f3_; have f4_ := f1_.symm; have f5_ := f3_.symm; clear f1_ f2_ f3_; subst f4_; subst f5_))
                    refine hK.out _ _ ⟨(blk_cell BK147.out 0).trans rfl, (blk_cell BK147.out 1).trans rfl⟩ (fun hHeld => ?_)
                    clear hK K
                    refine norm_ (a' := ?_) ?_ ?_
                    rotate_left
                    ·
                     show Act.put _ (some 110) _ = _
                     simp only [Act.put, List.setIfInBounds_toArray, List.set_cons_zero, List.set_cons_succ, i64_w, i32_w]
                     rfl
                    refine one_ (i := 9) (N := some 114) #[true, true, true, true, true, true, true, true, true, true, false, false] rfl rfl (one_of HT_.out (by kernel_rfl)) (by decide) (fun K hK => ?_)
                    refine goes_ Try.func26 (by kernel_rfl) rfl #[.slice Ao93 t148.length co93, .int .i64 4, .int .u64 (IntKind.u64.wrap ((rd_T67 l0_2 x101_5).f1))] (by rfl) rfl rfl (by (try simp only [List.map_toArray, List.map_cons, List.map_nil]); first | done | rfl | (simp only [List.length_drop, List.length_take]; rfl)) ?_
                    with_reducible refine (octets_Put.calls _ _ t148 4 (IntKind.u64.wrap ((rd_T67 l0_2 x101_5).f1)) t151 _ ?side1 ?side2 A84.out).mono ?_
                    (case side1 => repeat (first | exact (Kd.R_reads' HO150.out).2.2 | (with_reducible refine Kd.C_alloc ?_ _) | (with_reducible refine Kd.C_drewN ?_ _) | (with_reducible refine Kd.C_drew ?_)))
                    (case side2 => exact (Kd.R_reads' HO150.out).2.1)
                    rintro e w94 ⟨v152, rfl, ho0, hb⟩
                    refine ⟨_, rfl, ?_⟩
                    have n0_ := Aside0.mk (Kd.R_elder' (by (with_reducible repeat (first | apply Kd.R_alloc | apply Kd.R_drewN | apply Kd.R_drew)); exact HO_9.out) (Kd.R_base ho0) hb)
                    have n1_ := Aside0.mk (Kd.R_elder' (by (with_reducible repeat (first | apply Kd.R_alloc | apply Kd.R_drewN | apply Kd.R_drew)); exact HO150.out) (Kd.R_base ho0) hb)
                    have n2_ := Aside0.mk (Kd.R_lower (Kd.R_new' (Kd.R_new' ho0 (Kd.R_lt (by (with_reducible repeat (first | apply Kd.R_alloc | apply Kd.R_drewN | apply Kd.R_drew)); exact HO_9.out))) (Kd.R_lt (by (with_reducible repeat (first | apply Kd.R_alloc | apply Kd.R_drewN | apply Kd.R_drew)); exact HO150.out))) (below_size (by repeat (first | (with_reducible first | exact HB.out | apply below_alloc | apply pw_below_drewN | apply below_drew1 | refine below_set ?_ GE101.out | refine below_set ?_ GE102.out | refine below_set ?_ GE147.out) | exact HB.out))))
                    have n3_ := Aside0.mk (blk_below (g := gb101) (o := .cells #[.slice A0_0 l0_0.length c0_0, .slice A0_1 l0_1.length c0_1, .slice (some ad146) l0_2.length c0_2, .slice A0_3 l0_3.length c0_3, .slice A0_4 l0_4.length c0_4] 27 (0, 0)) (by (with_reducible repeat (first | refine blk_drewN ?_ _ | refine blk_drew ?_ | refine blk_alloc ?_ _)); exact BK101.out) hb)
                    have n4_ := Aside0.mk (blk_below (g := gb102) (o := .cells #[.int .i64 0, .int .i64 0, .int .i64 0, .int .i64 0, .int .i64 0, .int .i64 0, .int .i64 0] 35 (0, 0)) (by (with_reducible repeat (first | refine blk_drewN ?_ _ | refine blk_drew ?_ | refine blk_alloc ?_ _)); exact BK102.out) hb)
                    have n5_ := Aside0.mk (blk_below (g := gb147) (o := .cells #[.int .i64 ((rd_T67 l0_2 x101_5).f0), .int .i64 ((rd_T67 l0_2 x101_5).f1)] 67 (0, 0)) (by (with_reducible repeat (first | refine blk_drewN ?_ _ | refine blk_drew ?_ | refine blk_alloc ?_ _)); exact BK147.out) hb)
                    have n6_ := Aside0.mk (below_step (by repeat (first | (with_reducible first | exact HB.out | apply below_alloc | apply pw_below_drewN | apply below_drew1 | refine below_set ?_ GE101.out | refine below_set ?_ GE102.out | refine below_set ?_ GE147.out) | exact HB.out)) hb)
                    clear HO_9
                    clear HO150
                    clear BK101
                    clear BK102
                    clear BK147
                    clear HB
                    have HO_9 := n0_
                    have HO150 := n1_
                    have HO153 := n2_
                    have BK101 := n3_
                    have BK102 := n4_
                    have BK147 := n5_
                    have HB := n6_
                    clear n0_ n1_ n2_ n3_ n4_ n5_ n6_
                    (try clear hb)
                    (try clear hb2)
                    (try clear hk)
                    (try clear hi)
                    (try clear ho0)
                    obtain ⟨Ao96, co96, eo96⟩ := Kd.R_slice HO153.out
                    (first | subst eo96 | (injection eo96 with f1_ f2_ f3_; have f4_ := f1_.symm; have f5_ := f3_.symm; clear f1_ f2_ f3_; subst f4_; subst f5_))
                    refine hK.out _ _ ⟨(blk_cell BK147.out 0).trans rfl, (blk_cell BK147.out 1).trans rfl⟩ (fun hHeld => ?_)
                    clear hK K
                    refine norm_ (a' := ?_) ?_ ?_
                    rotate_left
                    ·
                     show Act.put _ (some 114) _ = _
                     simp only [Act.put, List.setIfInBounds_toArray, List.set_cons_zero, List.set_cons_succ, i64_w, i32_w]
                     rfl
                    refine one_ (i := 10) (N := some 115) #[true, true, true, true, true, true, true, true, true, true, true, false] rfl rfl (one_of HT_.out (by kernel_rfl)) (by decide) (fun K hK => ?_)
                    refine Kd.R_append_rows_step (Kd.int .u8) (w0 := w) w.heap.size (by rfl) (.tmp 105) (.tmp 114) 33 5 (.int .u8 0) 1 rfl Try.underlying33 info5 rfl (by decide) (by omega) u9 x9_5 t151 _ _ _ (fun k_ => some k_ ≠ (.slice Ao93 t148.length co93 : Value).ownBlock ∧ some k_ ≠ (.slice Ao96 t151.length co96 : Value).ownBlock) (fun _ => False) rfl rfl ?aO ?aR (fun _ _ h => h) (fun _ h => h.elim) ?aF ?aB ?aS ?aL ?_
                    (case aR => repeat (first | exact (Kd.R_reads' HO153.out).2.2 | (with_reducible refine Kd.C_alloc ?_ _) | (with_reducible refine Kd.C_drewN ?_ _) | (with_reducible refine Kd.C_drew ?_)))
                    (case aB => exact (by repeat (first | (with_reducible first | exact HB.out | apply below_alloc | apply pw_below_drewN | apply below_drew1 | refine below_set ?_ GE101.out | refine below_set ?_ GE102.out | refine below_set ?_ GE147.out) | exact HB.out)))
                    (case aF => exact (fun k_ hk => ⟨Kd.fresh' (Kd.R_lt (by (with_reducible repeat (first | apply Kd.R_alloc | apply Kd.R_drewN | apply Kd.R_drew)); exact HO150.out)) k_ hk, Kd.fresh' (Kd.R_lt (by (with_reducible repeat (first | apply Kd.R_alloc | apply Kd.R_drewN | apply Kd.R_drew)); exact HO153.out)) k_ hk⟩))
                    (case aO => exact (by (with_reducible repeat (first | apply Kd.R_alloc | apply Kd.R_drewN | apply Kd.R_drew)); exact Kd.R_mono HO_9.out (fun _ hk => ⟨hk.1.2, hk.2⟩)))
                    (case aS => exact (below_size (by repeat (first | (with_reducible first | exact HB.out | apply below_alloc | apply pw_below_drewN | apply below_drew1 | refine below_set ?_ GE101.out | refine below_set ?_ GE102.out | refine below_set ?_ GE147.out) | exact HB.out))))
                    (case aL => have := LMc85.out; omega)
                    intro v155 w95 ho hb hg hat
                    rw [← Ny154.out] at ho
                    have n0_ := Aside0.mk (blk_grown (g := gb101) (o := .cells #[.slice A0_0 l0_0.length c0_0, .slice A0_1 l0_1.length c0_1, .slice (some ad146) l0_2.length c0_2, .slice A0_3 l0_3.length c0_3, .slice A0_4 l0_4.length c0_4] 27 (0, 0)) (by (with_reducible repeat (first | refine blk_drewN ?_ _ | refine blk_drew ?_ | refine blk_alloc ?_ _)); exact BK101.out) hg (Kd.R_ne HO_9.out BK101.out (by decide)))
                    have n1_ := Aside0.mk (blk_grown (g := gb102) (o := .cells #[.int .i64 0, .int .i64 0, .int .i64 0, .int .i64 0, .int .i64 0, .int .i64 0, .int .i64 0] 35 (0, 0)) (by (with_reducible repeat (first | refine blk_drewN ?_ _ | refine blk_drew ?_ | refine blk_alloc ?_ _)); exact BK102.out) hg (Kd.R_ne HO_9.out BK102.out (by decide)))
                    have n2_ := Aside0.mk (blk_grown (g := gb147) (o := .cells #[.int .i64 ((rd_T67 l0_2 x101_5).f0), .int .i64 ((rd_T67 l0_2 x101_5).f1)] 67 (0, 0)) (by (with_reducible repeat (first | refine blk_drewN ?_ _ | refine blk_drew ?_ | refine blk_alloc ?_ _)); exact BK147.out) hg (Kd.R_ne HO_9.out BK147.out (by decide)))
                    have n3_ := Aside0.mk (Kd.R_after (ok := (fun k_ => some k_ ≠ (.slice Ao96 t151.length co96 : Value).ownBlock)) (by (with_reducible repeat (first | apply Kd.R_alloc | apply Kd.R_drewN | apply Kd.R_drew)); exact Kd.R_mono HO150.out (fun _ hk => ⟨hk.2, hk.1.2⟩)) hg hat)
                    have n4_ := Aside0.mk (Kd.R_after (ok := (fun k_ => some k_ ≠ (.slice Ao93 t148.length co93 : Value).ownBlock)) (by (with_reducible repeat (first | apply Kd.R_alloc | apply Kd.R_drewN | apply Kd.R_drew)); exact Kd.R_mono HO153.out (fun _ hk => ⟨hk.2, hk.1.2⟩)) hg hat)
                    have n5_ := Aside0.mk (hb)
                    have n6_ := Aside0.mk (ho)
                    clear BK101
                    clear BK102
                    clear BK147
                    clear HO150
                    clear HO153
                    clear HB
                    clear HO_9
                    have BK101 := n0_
                    have BK102 := n1_
                    have BK147 := n2_
                    have HO150 := n3_
                    have HO153 := n4_
                    have HB := n5_
                    have HO156 := n6_
                    clear n0_ n1_ n2_ n3_ n4_ n5_ n6_
                    clear ho hb hg hat
                    refine hK.out _ _ ⟨(blk_cell BK147.out 0).trans rfl, (blk_cell BK147.out 1).trans rfl⟩ (fun hHeld => ?_)
                    clear hK K
                    refine norm_ (a' := ?_) ?_ ?_
                    rotate_left
                    ·
                     show Act.put _ (some 115) _ = _
                     simp only [Act.put, List.setIfInBounds_toArray, List.set_cons_zero, List.set_cons_succ, i64_w, i32_w]
                     rfl
                    refine pure_ (i := 11) (N := some 9) (v := ?_) (a' := ?_) #[true, true, true, true, true, true, true, true, true, true, true, true] rfl rfl (any_of HT_.out (by kernel_rfl)) (fun _ _ _ h => h) (Or.inl ⟨by rfl, ?_⟩) ?_ ?_
                    rotate_left
                    ·
                     intro w'
                     go_simp
                     with_reducible rfl
                    rotate_left
                    ·
                     simp only [Act.put, List.setIfInBounds_toArray, List.set_cons_zero, List.set_cons_succ, i64_w, i32_w]
                     rfl
                    refine done_ (done_of HT_.out (by kernel_rfl)) ?_
                    try go_wp2
                    go_roundg k5
                    case measure => have := HJ3.out; have := HK2.out; have := HK3.out; have := HK4.out; have := HK5.out; omega
                    case rel => exact ⟨(y154), (wrap64 (x101_5 + 1)), (by first | rfl | (simp; done) | (simp [*]; done)), H', ⟨by have := HJ3.out; have := HK2.out; have := HK3.out; have := HK4.out; have := HK5.out; omega⟩, ⟨by (with_reducible repeat (first | apply Kd.R_alloc | apply Kd.R_drewN | apply Kd.R_drew)); exact Kd.R_mono HO156.out (fun _ hk => trivial)⟩, ⟨by (with_reducible repeat (first | refine blk_drewN ?_ _ | refine blk_drew ?_ | refine blk_alloc ?_ _)); exact BK101.out⟩, ⟨by (with_reducible repeat (first | refine blk_drewN ?_ _ | refine blk_drew ?_ | refine blk_alloc ?_ _)); exact BK102.out⟩, ⟨by repeat (first | (with_reducible first | exact HB.out | apply below_alloc | apply pw_below_drewN | apply below_drew1 | refine below_set ?_ GE101.out | refine below_set ?_ GE102.out | refine below_set ?_ GE147.out) | exact HB.out)⟩⟩
                   ·
                    rw [if_neg c85] at H
                    exact absurd H (by simp)
                  ·
                   rw [if_neg c82] at H
                   exact absurd H (by simp)
                 ·
                  rw [if_neg c81] at H
                  exact absurd H (by simp)
                ·
                 rw [if_neg c80] at H
                 have c80b0 : decide (x101_5 < (l0_2.length : Int)) = false := decide_eq_false c80
                 clear c80
                 replace H := Option.bind_eq_some_iff.mp H
                 obtain ⟨t158, A970, H⟩ := H
                 replace H : ((block_truths.f l0_4).bind fun t161 => ((slices_Concat_byte_byte.f (([x9_5, t158, t161] : List (List Int)))).bind fun t167 => (some (t167, a2, (l0_4.length : Int), (l0_3.length : Int), (l0_2.length : Int), (l0_1.length : Int), (l0_0.length : Int), (t117.size : Int), 0)))) = some (r1, r2, r3, r4, r5, r6, r7, r8, r9) := H
                 have A97 := Aside0.mk A970
                 clear A970
                 replace H := Option.bind_eq_some_iff.mp H
                 obtain ⟨t161, A980, H⟩ := H
                 replace H : ((slices_Concat_byte_byte.f (([x9_5, t158, t161] : List (List Int)))).bind fun t167 => (some (t167, a2, (l0_4.length : Int), (l0_3.length : Int), (l0_2.length : Int), (l0_1.length : Int), (l0_0.length : Int), (t117.size : Int), 0))) = some (r1, r2, r3, r4, r5, r6, r7, r8, r9) := H
                 have A98 := Aside0.mk A980
                 clear A980
                 obtain ⟨y164, hy164⟩ : ∃ y_ : List (List Int), y_ = (([x9_5, t158, t161] : List (List Int))) := ⟨_, rfl⟩
                 replace H : ((slices_Concat_byte_byte.f y164).bind fun t167 => (some (t167, a2, (l0_4.length : Int), (l0_3.length : Int), (l0_2.length : Int), (l0_1.length : Int), (l0_0.length : Int), (t117.size : Int), 0))) = some (r1, r2, r3, r4, r5, r6, r7, r8, r9) := by first | (rw [hy164]; with_reducible exact H) | (have H2_ := (Option.bind_some _ _).symm.trans H; rw [hy164]; with_reducible exact H2_) | (have H2_ := (Option.bind_some _ _).symm.trans H; with_reducible exact H2_) | with_reducible exact H | (rw [hy164]; exact H) | exact H
                 have Ny164 := Aside0.mk hy164
                 clear hy164
                 replace H := Option.bind_eq_some_iff.mp H
                 obtain ⟨t167, A990, H⟩ := H
                 replace H : (some (t167, a2, (l0_4.length : Int), (l0_3.length : Int), (l0_2.length : Int), (l0_1.length : Int), (l0_0.length : Int), (t117.size : Int), 0)) = some (r1, r2, r3, r4, r5, r6, r7, r8, r9) := H
                 have A99 := Aside0.mk A990
                 clear A990
                 simp only [Option.some.injEq, Prod.mk.injEq] at H
                 obtain ⟨rfl, rfl, rfl, rfl, rfl, rfl, rfl, rfl, rfl⟩ := H
                 have hnb100 := NB101_102.out
                 have hnc100 := NB102_101.out
                 have hcz101_0 : wr.cell? ⟨gb101, 0, none⟩ = some (.slice A0_0 l0_0.length c0_0) := (blk_cell BK101.out 0).trans rfl
                 have hcz101_1 : wr.cell? ⟨gb101, 1, none⟩ = some (.slice A0_1 l0_1.length c0_1) := (blk_cell BK101.out 1).trans rfl
                 have hcz101_2 : wr.cell? ⟨gb101, 2, none⟩ = some (.slice A0_2 l0_2.length c0_2) := (blk_cell BK101.out 2).trans rfl
                 have hcz101_3 : wr.cell? ⟨gb101, 3, none⟩ = some (.slice A0_3 l0_3.length c0_3) := (blk_cell BK101.out 3).trans rfl
                 have hcz101_4 : wr.cell? ⟨gb101, 4, none⟩ = some (.slice A0_4 l0_4.length c0_4) := (blk_cell BK101.out 4).trans rfl
                 have hfz101_0 := blk_frozen BK101.out 0
                 have hfz101_1 := blk_frozen BK101.out 1
                 have hfz101_2 := blk_frozen BK101.out 2
                 have hfz101_3 := blk_frozen BK101.out 3
                 have hfz101_4 := blk_frozen BK101.out 4
                 try go_wp2_with (first | ((with_reducible refine gate_dst (N := 20) rfl ?_); refine box_event ?hg (N := 20) ?hd (cs := #[.int .i64 0, .int .i64 0, .int .i64 0, .int .i64 0, .int .i64 0, .int .i64 0, .int .i64 0]) (t := 35) ?hr ?_; (case hd => rfl); (case hg => rfl); (case hr => first | (go_simp; done) | (go_simp; rfl)); intro gb157 hg w102 hbox hb; have n0_ := Aside0.mk (Kd.R_below (by (with_reducible repeat (first | apply Kd.R_alloc | apply Kd.R_drewN | apply Kd.R_drew)); exact HO_9.out) hb); have n1_ := Aside0.mk (blk_below (g := gb101) (o := .cells #[.slice A0_0 l0_0.length c0_0, .slice A0_1 l0_1.length c0_1, .slice A0_2 l0_2.length c0_2, .slice A0_3 l0_3.length c0_3, .slice A0_4 l0_4.length c0_4] 27 (0, 0)) (by (with_reducible repeat (first | refine blk_drewN ?_ _ | refine blk_drew ?_ | refine blk_alloc ?_ _)); exact BK101.out) hb); have n2_ := Aside0.mk (blk_below (g := gb102) (o := .cells #[.int .i64 0, .int .i64 0, .int .i64 0, .int .i64 0, .int .i64 0, .int .i64 0, .int .i64 0] 35 (0, 0)) (by (with_reducible repeat (first | refine blk_drewN ?_ _ | refine blk_drew ?_ | refine blk_alloc ?_ _)); exact BK102.out) hb); have n3_ := Aside0.mk (below_step (by repeat (first | (with_reducible first | exact HB.out | apply below_alloc | apply pw_below_drewN | apply below_drew1 | refine below_set ?_ GE101.out | refine below_set ?_ GE102.out) | exact HB.out)) hb); have n4_ := Aside0.mk (hbox); have n5_ := Aside0.mk ((by rw [hg]; exact (below_size (by repeat (first | (with_reducible first | exact HB.out | apply below_alloc | apply pw_below_drewN | apply below_drew1 | refine below_set ?_ GE101.out | refine below_set ?_ GE102.out) | exact HB.out))) : w.heap.size ≤ gb157)); have n6_ := Aside0.mk ((by rw [hg]; exact (below_size (by repeat (first | (with_reducible first | exact HB.out | apply below_alloc | apply pw_below_drewN | apply below_drew1 | refine below_set ?_ GE101.out | refine below_set ?_ GE102.out) | exact HB.out))) : w.heap.size ≤ gb157)); have n7_ := Aside0.mk ((by rw [hg]; exact Nat.ne_of_lt (blk_lt (g := gb101) (o := .cells #[.slice A0_0 l0_0.length c0_0, .slice A0_1 l0_1.length c0_1, .slice A0_2 l0_2.length c0_2, .slice A0_3 l0_3.length c0_3, .slice A0_4 l0_4.length c0_4] 27 (0, 0)) (by (with_reducible repeat (first | refine blk_drewN ?_ _ | refine blk_drew ?_ | refine blk_alloc ?_ _)); exact BK101.out)) : gb101 ≠ gb157)); have n8_ := Aside0.mk ((by rw [hg]; exact Nat.ne_of_gt (blk_lt (g := gb101) (o := .cells #[.slice A0_0 l0_0.length c0_0, .slice A0_1 l0_1.length c0_1, .slice A0_2 l0_2.length c0_2, .slice A0_3 l0_3.length c0_3, .slice A0_4 l0_4.length c0_4] 27 (0, 0)) (by (with_reducible repeat (first | refine blk_drewN ?_ _ | refine blk_drew ?_ | refine blk_alloc ?_ _)); exact BK101.out)) : gb157 ≠ gb101)); have n9_ := Aside0.mk ((by rw [hg]; exact Nat.ne_of_lt (blk_lt (g := gb102) (o := .cells #[.int .i64 0, .int .i64 0, .int .i64 0, .int .i64 0, .int .i64 0, .int .i64 0, .int .i64 0] 35 (0, 0)) (by (with_reducible repeat (first | refine blk_drewN ?_ _ | refine blk_drew ?_ | refine blk_alloc ?_ _)); exact BK102.out)) : gb102 ≠ gb157)); have n10_ := Aside0.mk ((by rw [hg]; exact Nat.ne_of_gt (blk_lt (g := gb102) (o := .cells #[.int .i64 0, .int .i64 0, .int .i64 0, .int .i64 0, .int .i64 0, .int .i64 0, .int .i64 0] 35 (0, 0)) (by (with_reducible repeat (first | refine blk_drewN ?_ _ | refine blk_drew ?_ | refine blk_alloc ?_ _)); exact BK102.out)) : gb157 ≠ gb102)); clear HO_9; clear BK101; clear BK102; clear HB; have HO_9 := n0_; have BK101 := n1_; have BK102 := n2_; have HB := n3_; have BK157 := n4_; have GW157 := n5_; have GE157 := n6_; have NB101_157 := n7_; have NB157_101 := n8_; have NB102_157 := n9_; have NB157_102 := n10_; clear n0_ n1_ n2_ n3_ n4_ n5_ n6_ n7_ n8_ n9_ n10_; clear hb hbox hg; have hnb103 := NB157_101.out; have hnc103 := NB101_157.out; have hnb104 := NB157_102.out; have hnc104 := NB102_157.out; have hcz105_0 : w102.cell? ⟨gb157, 0, none⟩ = some (.int .i64 0) := (blk_cell BK157.out 0).trans rfl; have hcz105_1 : w102.cell? ⟨gb157, 1, none⟩ = some (.int .i64 0) := (blk_cell BK157.out 1).trans rfl; have hcz105_2 : w102.cell? ⟨gb157, 2, none⟩ = some (.int .i64 0) := (blk_cell BK157.out 2).trans rfl; have hcz105_3 : w102.cell? ⟨gb157, 3, none⟩ = some (.int .i64 0) := (blk_cell BK157.out 3).trans rfl; have hcz105_4 : w102.cell? ⟨gb157, 4, none⟩ = some (.int .i64 0) := (blk_cell BK157.out 4).trans rfl; have hcz105_5 : w102.cell? ⟨gb157, 5, none⟩ = some (.int .i64 0) := (blk_cell BK157.out 5).trans rfl; have hcz105_6 : w102.cell? ⟨gb157, 6, none⟩ = some (.int .i64 0) := (blk_cell BK157.out 6).trans rfl; have hfz105_0 := blk_frozen BK157.out 0; have hfz105_1 := blk_frozen BK157.out 1; have hfz105_2 := blk_frozen BK157.out 2; have hfz105_3 := blk_frozen BK157.out 3; have hfz105_4 := blk_frozen BK157.out 4; have hfz105_5 := blk_frozen BK157.out 5; have hfz105_6 := blk_frozen BK157.out 6))
                 have n0_ : Aside0 (Kd.R (Kd.int .u8) 5 (((((((w102.setCell ⟨gb157, 0, none⟩ (.int .i64 a2)).setCell ⟨gb157, 1, none⟩ (.int .i64 (l0_4.length : Int))).setCell ⟨gb157, 2, none⟩ (.int .i64 (l0_3.length : Int))).setCell ⟨gb157, 3, none⟩ (.int .i64 (l0_2.length : Int))).setCell ⟨gb157, 4, none⟩ (.int .i64 (l0_1.length : Int))).setCell ⟨gb157, 5, none⟩ (.int .i64 (l0_0.length : Int))).setCell ⟨gb157, 6, none⟩ (.int .i64 (t117.size : Int))) w.heap.size (fun _ => True) u9 x9_5) := ⟨by (with_reducible repeat (first | apply Kd.R_alloc | apply Kd.R_drewN | apply Kd.R_drew)); exact Kd.R_mono (Kd.R_far (p := ⟨gb157, 6, none⟩) (Kd.R_far (p := ⟨gb157, 5, none⟩) (Kd.R_far (p := ⟨gb157, 4, none⟩) (Kd.R_far (p := ⟨gb157, 3, none⟩) (Kd.R_far (p := ⟨gb157, 2, none⟩) (Kd.R_far (p := ⟨gb157, 1, none⟩) (Kd.R_far (p := ⟨gb157, 0, none⟩) (Kd.R_types HO_9.out BK157.out (by decide)) (fun _ hk => hk.2) (.int .i64 a2)) (fun _ hk => hk.2) (.int .i64 (l0_4.length : Int))) (fun _ hk => hk.2) (.int .i64 (l0_3.length : Int))) (fun _ hk => hk.2) (.int .i64 (l0_2.length : Int))) (fun _ hk => hk.2) (.int .i64 (l0_1.length : Int))) (fun _ hk => hk.2) (.int .i64 (l0_0.length : Int))) (fun _ hk => hk.2) (.int .i64 (t117.size : Int))) (fun _ hk => trivial)⟩
                 have n1_ : Aside0 ((((((((w102.setCell ⟨gb157, 0, none⟩ (.int .i64 a2)).setCell ⟨gb157, 1, none⟩ (.int .i64 (l0_4.length : Int))).setCell ⟨gb157, 2, none⟩ (.int .i64 (l0_3.length : Int))).setCell ⟨gb157, 3, none⟩ (.int .i64 (l0_2.length : Int))).setCell ⟨gb157, 4, none⟩ (.int .i64 (l0_1.length : Int))).setCell ⟨gb157, 5, none⟩ (.int .i64 (l0_0.length : Int))).setCell ⟨gb157, 6, none⟩ (.int .i64 (t117.size : Int))).heap[gb101]? = some (.cells #[.slice A0_0 l0_0.length c0_0, .slice A0_1 l0_1.length c0_1, .slice A0_2 l0_2.length c0_2, .slice A0_3 l0_3.length c0_3, .slice A0_4 l0_4.length c0_4] 27 (0, 0))) := ⟨by (with_reducible repeat (first | refine blk_drewN ?_ _ | refine blk_drew ?_ | refine blk_alloc ?_ _)); refine blk_far ?_ NB101_157.out _; (with_reducible repeat (first | refine blk_drewN ?_ _ | refine blk_drew ?_ | refine blk_alloc ?_ _)); refine blk_far ?_ NB101_157.out _; (with_reducible repeat (first | refine blk_drewN ?_ _ | refine blk_drew ?_ | refine blk_alloc ?_ _)); refine blk_far ?_ NB101_157.out _; (with_reducible repeat (first | refine blk_drewN ?_ _ | refine blk_drew ?_ | refine blk_alloc ?_ _)); refine blk_far ?_ NB101_157.out _; (with_reducible repeat (first | refine blk_drewN ?_ _ | refine blk_drew ?_ | refine blk_alloc ?_ _)); refine blk_far ?_ NB101_157.out _; (with_reducible repeat (first | refine blk_drewN ?_ _ | refine blk_drew ?_ | refine blk_alloc ?_ _)); refine blk_far ?_ NB101_157.out _; (with_reducible repeat (first | refine blk_drewN ?_ _ | refine blk_drew ?_ | refine blk_alloc ?_ _)); refine blk_far ?_ NB101_157.out _; (with_reducible repeat (first | refine blk_drewN ?_ _ | refine blk_drew ?_ | refine blk_alloc ?_ _)); exact BK101.out⟩
                 have n2_ : Aside0 ((((((((w102.setCell ⟨gb157, 0, none⟩ (.int .i64 a2)).setCell ⟨gb157, 1, none⟩ (.int .i64 (l0_4.length : Int))).setCell ⟨gb157, 2, none⟩ (.int .i64 (l0_3.length : Int))).setCell ⟨gb157, 3, none⟩ (.int .i64 (l0_2.length : Int))).setCell ⟨gb157, 4, none⟩ (.int .i64 (l0_1.length : Int))).setCell ⟨gb157, 5, none⟩ (.int .i64 (l0_0.length : Int))).setCell ⟨gb157, 6, none⟩ (.int .i64 (t117.size : Int))).heap[gb102]? = some (.cells #[.int .i64 0, .int .i64 0, .int .i64 0, .int .i64 0, .int .i64 0, .int .i64 0, .int .i64 0] 35 (0, 0))) := ⟨by (with_reducible repeat (first | refine blk_drewN ?_ _ | refine blk_drew ?_ | refine blk_alloc ?_ _)); refine blk_far ?_ NB102_157.out _; (with_reducible repeat (first | refine blk_drewN ?_ _ | refine blk_drew ?_ | refine blk_alloc ?_ _)); refine blk_far ?_ NB102_157.out _; (with_reducible repeat (first | refine blk_drewN ?_ _ | refine blk_drew ?_ | refine blk_alloc ?_ _)); refine blk_far ?_ NB102_157.out _; (with_reducible repeat (first | refine blk_drewN ?_ _ | refine blk_drew ?_ | refine blk_alloc ?_ _)); refine blk_far ?_ NB102_157.out _; (with_reducible repeat (first | refine blk_drewN ?_ _ | refine blk_drew ?_ | refine blk_alloc ?_ _)); refine blk_far ?_ NB102_157.out _; (with_reducible repeat (first | refine blk_drewN ?_ _ | refine blk_drew ?_ | refine blk_alloc ?_ _)); refine blk_far ?_ NB102_157.out _; (with_reducible repeat (first | refine blk_drewN ?_ _ | refine blk_drew ?_ | refine blk_alloc ?_ _)); refine blk_far ?_ NB102_157.out _; (with_reducible repeat (first | refine blk_drewN ?_ _ | refine blk_drew ?_ | refine blk_alloc ?_ _)); exact BK102.out⟩
                 have n3_ : Aside0 ((((((((w102.setCell ⟨gb157, 0, none⟩ (.int .i64 a2)).setCell ⟨gb157, 1, none⟩ (.int .i64 (l0_4.length : Int))).setCell ⟨gb157, 2, none⟩ (.int .i64 (l0_3.length : Int))).setCell ⟨gb157, 3, none⟩ (.int .i64 (l0_2.length : Int))).setCell ⟨gb157, 4, none⟩ (.int .i64 (l0_1.length : Int))).setCell ⟨gb157, 5, none⟩ (.int .i64 (l0_0.length : Int))).setCell ⟨gb157, 6, none⟩ (.int .i64 (t117.size : Int))).heap[gb157]? = some (.cells #[.int .i64 a2, .int .i64 (l0_4.length : Int), .int .i64 (l0_3.length : Int), .int .i64 (l0_2.length : Int), .int .i64 (l0_1.length : Int), .int .i64 (l0_0.length : Int), .int .i64 (t117.size : Int)] 35 (0, 0))) := ⟨by (with_reducible repeat (first | refine blk_drewN ?_ _ | refine blk_drew ?_ | refine blk_alloc ?_ _)); refine blk_put (cs := #[.int .i64 a2, .int .i64 (l0_4.length : Int), .int .i64 (l0_3.length : Int), .int .i64 (l0_2.length : Int), .int .i64 (l0_1.length : Int), .int .i64 (l0_0.length : Int), .int .i64 0]) ?_ 6 _ rfl; (with_reducible repeat (first | refine blk_drewN ?_ _ | refine blk_drew ?_ | refine blk_alloc ?_ _)); refine blk_put (cs := #[.int .i64 a2, .int .i64 (l0_4.length : Int), .int .i64 (l0_3.length : Int), .int .i64 (l0_2.length : Int), .int .i64 (l0_1.length : Int), .int .i64 0, .int .i64 0]) ?_ 5 _ rfl; (with_reducible repeat (first | refine blk_drewN ?_ _ | refine blk_drew ?_ | refine blk_alloc ?_ _)); refine blk_put (cs := #[.int .i64 a2, .int .i64 (l0_4.length : Int), .int .i64 (l0_3.length : Int), .int .i64 (l0_2.length : Int), .int .i64 0, .int .i64 0, .int .i64 0]) ?_ 4 _ rfl; (with_reducible repeat (first | refine blk_drewN ?_ _ | refine blk_drew ?_ | refine blk_alloc ?_ _)); refine blk_put (cs := #[.int .i64 a2, .int .i64 (l0_4.length : Int), .int .i64 (l0_3.length : Int), .int .i64 0, .int .i64 0, .int .i64 0, .int .i64 0]) ?_ 3 _ rfl; (with_reducible repeat (first | refine blk_drewN ?_ _ | refine blk_drew ?_ | refine blk_alloc ?_ _)); refine blk_put (cs := #[.int .i64 a2, .int .i64 (l0_4.length : Int), .int .i64 0, .int .i64 0, .int .i64 0, .int .i64 0, .int .i64 0]) ?_ 2 _ rfl; (with_reducible repeat (first | refine blk_drewN ?_ _ | refine blk_drew ?_ | refine blk_alloc ?_ _)); refine blk_put (cs := #[.int .i64 a2, .int .i64 0, .int .i64 0, .int .i64 0, .int .i64 0, .int .i64 0, .int .i64 0]) ?_ 1 _ rfl; (with_reducible repeat (first | refine blk_drewN ?_ _ | refine blk_drew ?_ | refine blk_alloc ?_ _)); refine blk_put (cs := #[.int .i64 0, .int .i64 0, .int .i64 0, .int .i64 0, .int .i64 0, .int .i64 0, .int .i64 0]) ?_ 0 _ rfl; (with_reducible repeat (first | refine blk_drewN ?_ _ | refine blk_drew ?_ | refine blk_alloc ?_ _)); exact BK157.out⟩
                 have n4_ : Aside0 (Below w.heap.size w (((((((w102.setCell ⟨gb157, 0, none⟩ (.int .i64 a2)).setCell ⟨gb157, 1, none⟩ (.int .i64 (l0_4.length : Int))).setCell ⟨gb157, 2, none⟩ (.int .i64 (l0_3.length : Int))).setCell ⟨gb157, 3, none⟩ (.int .i64 (l0_2.length : Int))).setCell ⟨gb157, 4, none⟩ (.int .i64 (l0_1.length : Int))).setCell ⟨gb157, 5, none⟩ (.int .i64 (l0_0.length : Int))).setCell ⟨gb157, 6, none⟩ (.int .i64 (t117.size : Int)))) := ⟨by repeat (first | (with_reducible first | exact HB.out | apply below_alloc | apply pw_below_drewN | apply below_drew1 | refine below_set ?_ GE101.out | refine below_set ?_ GE102.out | refine below_set ?_ GE157.out) | exact HB.out)⟩
                 (try clear HO_9)
                 (try clear BK101)
                 (try clear BK102)
                 (try clear BK157)
                 (try clear HB)
                 generalize (((((((w102.setCell ⟨gb157, 0, none⟩ (.int .i64 a2)).setCell ⟨gb157, 1, none⟩ (.int .i64 (l0_4.length : Int))).setCell ⟨gb157, 2, none⟩ (.int .i64 (l0_3.length : Int))).setCell ⟨gb157, 3, none⟩ (.int .i64 (l0_2.length : Int))).setCell ⟨gb157, 4, none⟩ (.int .i64 (l0_1.length : Int))).setCell ⟨gb157, 5, none⟩ (.int .i64 (l0_0.length : Int))).setCell ⟨gb157, 6, none⟩ (.int .i64 (t117.size : Int))) = w106 at n0_ n1_ n2_ n3_ n4_ ⊢
                 have HO_9 := n0_
                 have BK101 := n1_
                 have BK102 := n2_
                 have BK157 := n3_
                 have HB := n4_
                 clear n0_ n1_ n2_ n3_ n4_
                 have n0_ := Aside0.mk (Kd.R_drew HO_9.out)
                 have n1_ := Aside0.mk (blk_drew BK101.out)
                 have n2_ := Aside0.mk (blk_drew BK102.out)
                 have n3_ := Aside0.mk (blk_drew BK157.out)
                 have n4_ := Aside0.mk (below_drew1 HB.out)
                 clear HO_9
                 clear BK101
                 clear BK102
                 clear BK157
                 clear HB
                 have HO_9 := n0_
                 have BK101 := n1_
                 have BK102 := n2_
                 have BK157 := n3_
                 have HB := n4_
                 clear n0_ n1_ n2_ n3_ n4_
                 refine start_ (n := 13) (S := fun w' => w'.cell? ⟨gb101, 0, none⟩ = some (.slice A0_0 l0_0.length c0_0) ∧ w'.cell? ⟨gb101, 1, none⟩ = some (.slice A0_1 l0_1.length c0_1) ∧ w'.cell? ⟨gb101, 2, none⟩ = some (.slice A0_2 l0_2.length c0_2) ∧ w'.cell? ⟨gb101, 3, none⟩ = some (.slice A0_3 l0_3.length c0_3) ∧ w'.cell? ⟨gb101, 4, none⟩ = some (.slice A0_4 l0_4.length c0_4) ∧ w'.cell? ⟨gb157, 0, none⟩ = some (.int .i64 a2) ∧ w'.cell? ⟨gb157, 1, none⟩ = some (.int .i64 (l0_4.length : Int)) ∧ w'.cell? ⟨gb157, 2, none⟩ = some (.int .i64 (l0_3.length : Int)) ∧ w'.cell? ⟨gb157, 3, none⟩ = some (.int .i64 (l0_2.length : Int)) ∧ w'.cell? ⟨gb157, 4, none⟩ = some (.int .i64 (l0_1.length : Int)) ∧ w'.cell? ⟨gb157, 5, none⟩ = some (.int .i64 (l0_0.length : Int)) ∧ w'.cell? ⟨gb157, 6, none⟩ = some (.int .i64 (t117.size : Int))) (ds := []) #[false, false, false, false, false, false, false, false, false, false, false, false, false] (by kernel_rfl) rfl rfl ⟨(blk_cell BK101.out 0).trans rfl, (blk_cell BK101.out 1).trans rfl, (blk_cell BK101.out 2).trans rfl, (blk_cell BK101.out 3).trans rfl, (blk_cell BK101.out 4).trans rfl, (blk_cell BK157.out 0).trans rfl, (blk_cell BK157.out 1).trans rfl, (blk_cell BK157.out 2).trans rfl, (blk_cell BK157.out 3).trans rfl, (blk_cell BK157.out 4).trans rfl, (blk_cell BK157.out 5).trans rfl, (blk_cell BK157.out 6).trans rfl⟩ (fun hHeld => ?_); refine with_tabW block_Encode.tab27 block_Encode.bits27 (fun HT_ HW_ => ?_)
                 generalize w106.drew = w107 at HO_9 BK101 BK102 BK157 HB hHeld ⊢
                 refine pure_ (i := 0) (N := some 136) (v := ?_) (a' := ?_) #[true, false, false, false, false, false, false, false, false, false, false, false, false] rfl rfl (any_of HT_.out (by kernel_rfl)) (fun _ _ _ h => h) (Or.inl ⟨by rfl, ?_⟩) ?_ ?_
                 rotate_left
                 ·
                  intro w'
                  go_simp
                  with_reducible rfl
                 rotate_left
                 ·
                  simp only [Act.put, List.setIfInBounds_toArray, List.set_cons_zero, List.set_cons_succ, i64_w, i32_w]
                  rfl
                 refine pure_ (i := 1) (N := some 137) (v := ?_) (a' := ?_) #[true, true, false, false, false, false, false, false, false, false, false, false, false] rfl rfl (any_of HT_.out (by kernel_rfl)) (fun _ _ _ h => h) (Or.inl ⟨by rfl, ?_⟩) ?_ ?_
                 rotate_left
                 ·
                  intro w'
                  go_simp
                  with_reducible rfl
                 rotate_left
                 ·
                  simp only [Act.put, List.setIfInBounds_toArray, List.set_cons_zero, List.set_cons_succ, i64_w, i32_w]
                  rfl
                 refine pure_ (i := 4) (N := some 140) (v := ?_) (a' := ?_) #[true, true, false, false, true, false, false, false, false, false, false, false, false] rfl rfl (any_of HT_.out (by kernel_rfl)) (fun _ _ _ h => h) (Or.inl ⟨by rfl, ?_⟩) ?_ ?_
                 rotate_left
                 ·
                  intro w'
                  go_simp
                  with_reducible rfl
                 rotate_left
                 ·
                  simp only [Act.put, List.setIfInBounds_toArray, List.set_cons_zero, List.set_cons_succ, i64_w, i32_w]
                  rfl
                 refine take_ (i := 2) (N := some 138) (v := ?_) (a' := ?_) #[true, true, true, false, true, false, false, false, false, false, false, false, false] rfl rfl (take_ofW HT_.out HW_.out (by kernel_rfl)) (fun _ _ _ h => h) (Or.inl ⟨by rfl, ?_⟩) hHeld ?_ ?_
                 rotate_left
                 ·
                  rintro w' ⟨s0, s1, s2, s3, s4, s5, s6, s7, s8, s9, s10, s11⟩
                  go_simp
                  with_reducible rfl
                 rotate_left
                 ·
                  simp only [Act.put, List.setIfInBounds_toArray, List.set_cons_zero, List.set_cons_succ, i64_w, i32_w]
                  rfl
                 refine take_ (i := 5) (N := some 141) (v := ?_) (a' := ?_) #[true, true, true, false, true, true, false, false, false, false, false, false, false] rfl rfl (take_ofW HT_.out HW_.out (by kernel_rfl)) (fun _ _ _ h => h) (Or.inl ⟨by rfl, ?_⟩) hHeld ?_ ?_
                 rotate_left
                 ·
                  rintro w' ⟨s0, s1, s2, s3, s4, s5, s6, s7, s8, s9, s10, s11⟩
                  go_simp
                  with_reducible rfl
                 rotate_left
                 ·
                  simp only [Act.put, List.setIfInBounds_toArray, List.set_cons_zero, List.set_cons_succ, i64_w, i32_w]
                  rfl
                 refine take_ (i := 9) (N := some 145) (v := ?_) (a' := ?_) #[true, true, true, false, true, true, false, false, false, true, false, false, false] rfl rfl (take_ofW HT_.out HW_.out (by kernel_rfl)) (fun _ _ _ h => h) (Or.inl ⟨by rfl, ?_⟩) hHeld ?_ ?_
                 rotate_left
                 ·
                  rintro w' ⟨s0, s1, s2, s3, s4, s5, s6, s7, s8, s9, s10, s11⟩
                  go_simp
                  with_reducible rfl
                 rotate_left
                 ·
                  simp only [Act.put, List.setIfInBounds_toArray, List.set_cons_zero, List.set_cons_succ, i64_w, i32_w]
                  rfl
                 refine one_ (i := 3) (N := some 139) #[true, true, true, true, true, true, false, false, false, true, false, false, false] rfl rfl (one_of HT_.out (by kernel_rfl)) (by decide) (fun K hK => ?_)
                 refine goes_ Try.func29 (by kernel_rfl) rfl #[.slice A0_3 l0_3.length c0_3] (by rfl) rfl rfl (by (try simp only [List.map_toArray, List.map_cons, List.map_nil]); first | done | rfl | (simp only [List.length_drop, List.length_take]; rfl)) ?_
                 with_reducible refine (block_truths.calls _ _ l0_3 t158 _ ?side1 ?side2 A97.out).mono ?_
                 (case side1 => repeat (first | exact (Kd.C_below HR0_3.out HB.out) | (with_reducible refine Kd.C_alloc ?_ _) | (with_reducible refine Kd.C_drewN ?_ _) | (with_reducible refine Kd.C_drew ?_)))
                 (case side2 => exact HC0_3.out)
                 rintro e w108 ⟨v159, rfl, ho0, hb⟩
                 refine ⟨_, rfl, ?_⟩
                 have n0_ := Aside0.mk (Kd.R_elder' (by (with_reducible repeat (first | apply Kd.R_alloc | apply Kd.R_drewN | apply Kd.R_drew)); exact HO_9.out) (Kd.R_base ho0) hb)
                 have n1_ := Aside0.mk (Kd.R_lower (Kd.R_new' ho0 (Kd.R_lt (by (with_reducible repeat (first | apply Kd.R_alloc | apply Kd.R_drewN | apply Kd.R_drew)); exact HO_9.out))) (below_size (by repeat (first | (with_reducible first | exact HB.out | apply below_alloc | apply pw_below_drewN | apply below_drew1 | refine below_set ?_ GE101.out | refine below_set ?_ GE102.out | refine below_set ?_ GE157.out) | exact HB.out))))
                 have n2_ := Aside0.mk (blk_below (g := gb101) (o := .cells #[.slice A0_0 l0_0.length c0_0, .slice A0_1 l0_1.length c0_1, .slice A0_2 l0_2.length c0_2, .slice A0_3 l0_3.length c0_3, .slice A0_4 l0_4.length c0_4] 27 (0, 0)) (by (with_reducible repeat (first | refine blk_drewN ?_ _ | refine blk_drew ?_ | refine blk_alloc ?_ _)); exact BK101.out) hb)
                 have n3_ := Aside0.mk (blk_below (g := gb102) (o := .cells #[.int .i64 0, .int .i64 0, .int .i64 0, .int .i64 0, .int .i64 0, .int .i64 0, .int .i64 0] 35 (0, 0)) (by (with_reducible repeat (first | refine blk_drewN ?_ _ | refine blk_drew ?_ | refine blk_alloc ?_ _)); exact BK102.out) hb)
                 have n4_ := Aside0.mk (blk_below (g := gb157) (o := .cells #[.int .i64 a2, .int .i64 (l0_4.length : Int), .int .i64 (l0_3.length : Int), .int .i64 (l0_2.length : Int), .int .i64 (l0_1.length : Int), .int .i64 (l0_0.length : Int), .int .i64 (t117.size : Int)] 35 (0, 0)) (by (with_reducible repeat (first | refine blk_drewN ?_ _ | refine blk_drew ?_ | refine blk_alloc ?_ _)); exact BK157.out) hb)
                 have n5_ := Aside0.mk (below_step (by repeat (first | (with_reducible first | exact HB.out | apply below_alloc | apply pw_below_drewN | apply below_drew1 | refine below_set ?_ GE101.out | refine below_set ?_ GE102.out | refine below_set ?_ GE157.out) | exact HB.out)) hb)
                 clear HO_9
                 clear BK101
                 clear BK102
                 clear BK157
                 clear HB
                 have HO_9 := n0_
                 have HO160 := n1_
                 have BK101 := n2_
                 have BK102 := n3_
                 have BK157 := n4_
                 have HB := n5_
                 clear n0_ n1_ n2_ n3_ n4_ n5_
                 (try clear hb)
                 (try clear hb2)
                 (try clear hk)
                 (try clear hi)
                 (try clear ho0)
                 refine hK.out _ _ ⟨(blk_cell BK101.out 0).trans rfl, (blk_cell BK101.out 1).trans rfl, (blk_cell BK101.out 2).trans rfl, (blk_cell BK101.out 3).trans rfl, (blk_cell BK101.out 4).trans rfl, (blk_cell BK157.out 0).trans rfl, (blk_cell BK157.out 1).trans rfl, (blk_cell BK157.out 2).trans rfl, (blk_cell BK157.out 3).trans rfl, (blk_cell BK157.out 4).trans rfl, (blk_cell BK157.out 5).trans rfl, (blk_cell BK157.out 6).trans rfl⟩ (fun hHeld => ?_)
                 clear hK K
                 refine norm_ (a' := ?_) ?_ ?_
                 rotate_left
                 ·
                  show Act.put _ (some 139) _ = _
                  simp only [Act.put, List.setIfInBounds_toArray, List.set_cons_zero, List.set_cons_succ, i64_w, i32_w]
                  rfl
                 refine one_ (i := 6) (N := some 142) #[true, true, true, true, true, true, true, false, false, true, false, false, false] rfl rfl (one_of HT_.out (by kernel_rfl)) (by decide) (fun K hK => ?_)
                 refine goes_ Try.func29 (by kernel_rfl) rfl #[.slice A0_4 l0_4.length c0_4] (by rfl) rfl rfl (by (try simp only [List.map_toArray, List.map_cons, List.map_nil]); first | done | rfl | (simp only [List.length_drop, List.length_take]; rfl)) ?_
                 with_reducible refine (block_truths.calls _ _ l0_4 t161 _ ?side1 ?side2 A98.out).mono ?_
                 (case side1 => repeat (first | exact (Kd.C_below HR0_4.out HB.out) | (with_reducible refine Kd.C_alloc ?_ _) | (with_reducible refine Kd.C_drewN ?_ _) | (with_reducible refine Kd.C_drew ?_)))
                 (case side2 => exact HC0_4.out)
                 rintro e w109 ⟨v162, rfl, ho0, hb⟩
                 refine ⟨_, rfl, ?_⟩
                 have n0_ := Aside0.mk (Kd.R_elder' (by (with_reducible repeat (first | apply Kd.R_alloc | apply Kd.R_drewN | apply Kd.R_drew)); exact HO_9.out) (Kd.R_base ho0) hb)
                 have n1_ := Aside0.mk (Kd.R_elder' (by (with_reducible repeat (first | apply Kd.R_alloc | apply Kd.R_drewN | apply Kd.R_drew)); exact HO160.out) (Kd.R_base ho0) hb)
                 have n2_ := Aside0.mk (Kd.R_lower (Kd.R_new' (Kd.R_new' ho0 (Kd.R_lt (by (with_reducible repeat (first | apply Kd.R_alloc | apply Kd.R_drewN | apply Kd.R_drew)); exact HO_9.out))) (Kd.R_lt (by (with_reducible repeat (first | apply Kd.R_alloc | apply Kd.R_drewN | apply Kd.R_drew)); exact HO160.out))) (below_size (by repeat (first | (with_reducible first | exact HB.out | apply below_alloc | apply pw_below_drewN | apply below_drew1 | refine below_set ?_ GE101.out | refine below_set ?_ GE102.out | refine below_set ?_ GE157.out) | exact HB.out))))
                 have n3_ := Aside0.mk (blk_below (g := gb101) (o := .cells #[.slice A0_0 l0_0.length c0_0, .slice A0_1 l0_1.length c0_1, .slice A0_2 l0_2.length c0_2, .slice A0_3 l0_3.length c0_3, .slice A0_4 l0_4.length c0_4] 27 (0, 0)) (by (with_reducible repeat (first | refine blk_drewN ?_ _ | refine blk_drew ?_ | refine blk_alloc ?_ _)); exact BK101.out) hb)
                 have n4_ := Aside0.mk (blk_below (g := gb102) (o := .cells #[.int .i64 0, .int .i64 0, .int .i64 0, .int .i64 0, .int .i64 0, .int .i64 0, .int .i64 0] 35 (0, 0)) (by (with_reducible repeat (first | refine blk_drewN ?_ _ | refine blk_drew ?_ | refine blk_alloc ?_ _)); exact BK102.out) hb)
                 have n5_ := Aside0.mk (blk_below (g := gb157) (o := .cells #[.int .i64 a2, .int .i64 (l0_4.length : Int), .int .i64 (l0_3.length : Int), .int .i64 (l0_2.length : Int), .int .i64 (l0_1.length : Int), .int .i64 (l0_0.length : Int), .int .i64 (t117.size : Int)] 35 (0, 0)) (by (with_reducible repeat (first | refine blk_drewN ?_ _ | refine blk_drew ?_ | refine blk_alloc ?_ _)); exact BK157.out) hb)
                 have n6_ := Aside0.mk (below_step (by repeat (first | (with_reducible first | exact HB.out | apply below_alloc | apply pw_below_drewN | apply below_drew1 | refine below_set ?_ GE101.out | refine below_set ?_ GE102.out | refine below_set ?_ GE157.out) | exact HB.out)) hb)
                 clear HO_9
                 clear HO160
                 clear BK101
                 clear BK102
                 clear BK157
                 clear HB
                 have HO_9 := n0_
                 have HO160 := n1_
                 have HO163 := n2_
                 have BK101 := n3_
                 have BK102 := n4_
                 have BK157 := n5_
                 have HB := n6_
                 clear n0_ n1_ n2_ n3_ n4_ n5_ n6_
                 (try clear hb)
                 (try clear hb2)
                 (try clear hk)
                 (try clear hi)
                 (try clear ho0)
                 obtain ⟨Ao110, co110, eo110⟩ := Kd.R_slice HO_9.out
                 (first | subst eo110 | (injection eo110 with f1_ f2_ f3_; have f4_ := f1_.symm; have f5_ := f3_.symm; clear f1_ f2_ f3_; subst f4_; subst f5_))
                 obtain ⟨Ao111, co111, eo111⟩ := Kd.R_slice HO160.out
                 (first | subst eo111 | (injection eo111 with f1_ f2_ f3_; have f4_ := f1_.symm; have f5_ := f3_.symm; clear f1_ f2_ f3_; subst f4_; subst f5_))
                 obtain ⟨Ao112, co112, eo112⟩ := Kd.R_slice HO163.out
                 (first | subst eo112 | (injection eo112 with f1_ f2_ f3_; have f4_ := f1_.symm; have f5_ := f3_.symm; clear f1_ f2_ f3_; subst f4_; subst f5_))
                 refine hK.out _ _ ⟨(blk_cell BK101.out 0).trans rfl, (blk_cell BK101.out 1).trans rfl, (blk_cell BK101.out 2).trans rfl, (blk_cell BK101.out 3).trans rfl, (blk_cell BK101.out 4).trans rfl, (blk_cell BK157.out 0).trans rfl, (blk_cell BK157.out 1).trans rfl, (blk_cell BK157.out 2).trans rfl, (blk_cell BK157.out 3).trans rfl, (blk_cell BK157.out 4).trans rfl, (blk_cell BK157.out 5).trans rfl, (blk_cell BK157.out 6).trans rfl⟩ (fun hHeld => ?_)
                 clear hK K
                 refine norm_ (a' := ?_) ?_ ?_
                 rotate_left
                 ·
                  show Act.put _ (some 142) _ = _
                  simp only [Act.put, List.setIfInBounds_toArray, List.set_cons_zero, List.set_cons_succ, i64_w, i32_w]
                  rfl
                 refine one_ (i := 7) (N := some 143) #[true, true, true, true, true, true, true, true, false, true, false, false, false] rfl rfl (one_of HT_.out (by kernel_rfl)) (by decide) (fun K hK => ?_)
                 refine Kd.N_lit_step (Kd.slice 5 (Kd.int .u8)) _ 33 ?hg (N' := 143) ?hd (xs := ([x9_5, t158, t161] : List (List Int))) (inner := [.slice Ao110 x9_5.length co110, .slice Ao111 t158.length co111, .slice Ao112 t161.length co112]) (ok := (fun k_ => k_ ≠ gb101 ∧ k_ ≠ gb102 ∧ k_ ≠ gb157)) (okp := (fun k_ => k_ ≠ gb101 ∧ k_ ≠ gb102 ∧ k_ ≠ gb157)) ?hr ?hp (fun _ hk => hk) ((show ∀ k_, w109.heap.size ≤ k_ → (fun k_ => k_ ≠ gb101 ∧ k_ ≠ gb102 ∧ k_ ≠ gb157) k_ from fun k_ hk => ⟨Kd.freshB (g := gb101) (o := .cells #[.slice A0_0 l0_0.length c0_0, .slice A0_1 l0_1.length c0_1, .slice A0_2 l0_2.length c0_2, .slice A0_3 l0_3.length c0_3, .slice A0_4 l0_4.length c0_4] 27 (0, 0)) (by (with_reducible repeat (first | refine blk_drewN ?_ _ | refine blk_drew ?_ | refine blk_alloc ?_ _)); exact BK101.out) k_ hk, Kd.freshB (g := gb102) (o := .cells #[.int .i64 0, .int .i64 0, .int .i64 0, .int .i64 0, .int .i64 0, .int .i64 0, .int .i64 0] 35 (0, 0)) (by (with_reducible repeat (first | refine blk_drewN ?_ _ | refine blk_drew ?_ | refine blk_alloc ?_ _)); exact BK102.out) k_ hk, Kd.freshB (g := gb157) (o := .cells #[.int .i64 a2, .int .i64 (l0_4.length : Int), .int .i64 (l0_3.length : Int), .int .i64 (l0_2.length : Int), .int .i64 (l0_1.length : Int), .int .i64 (l0_0.length : Int), .int .i64 (t117.size : Int)] 35 (0, 0)) (by (with_reducible repeat (first | refine blk_drewN ?_ _ | refine blk_drew ?_ | refine blk_alloc ?_ _)); exact BK157.out) k_ hk⟩) _ (Nat.le_refl _)) (Below.refl _ _) (Nat.le_refl _) (by simp) ?_; (case hd => rfl); (case hg => rfl); (case hr => first | (go_simp; done) | (go_simp; rfl)); (case hp => exact (Reps.one (show Kd.FK (Kd.slice 5 (Kd.int .u8)) _ _ x9_5 [.slice Ao110 x9_5.length co110] from (Kd.FK_slice_mk (Kd.R_reads' (Kd.R_mono (ok' := (fun k_ => k_ ≠ gb101 ∧ k_ ≠ gb102 ∧ k_ ≠ gb157)) (Kd.R_types (Kd.R_types (Kd.R_types (HO_9.out) BK101.out (by decide)) BK102.out (by decide)) BK157.out (by decide)) (fun k_ hk => ⟨hk.1.1.2, ⟨hk.1.2, hk.2⟩⟩))).2.1 (Kd.R_F (Kd.R_mono (ok' := (fun k_ => k_ ≠ gb101 ∧ k_ ≠ gb102 ∧ k_ ≠ gb157)) (Kd.R_types (Kd.R_types (Kd.R_types (HO_9.out) BK101.out (by decide)) BK102.out (by decide)) BK157.out (by decide)) (fun k_ hk => ⟨hk.1.1.2, ⟨hk.1.2, hk.2⟩⟩))))) (Reps.one (show Kd.FK (Kd.slice 5 (Kd.int .u8)) _ _ t158 [.slice Ao111 t158.length co111] from (Kd.FK_slice_mk (Kd.R_reads' (Kd.R_mono (ok' := (fun k_ => k_ ≠ gb101 ∧ k_ ≠ gb102 ∧ k_ ≠ gb157)) (Kd.R_types (Kd.R_types (Kd.R_types (HO160.out) BK101.out (by decide)) BK102.out (by decide)) BK157.out (by decide)) (fun k_ hk => ⟨hk.1.1.2, ⟨hk.1.2, hk.2⟩⟩))).2.1 (Kd.R_F (Kd.R_mono (ok' := (fun k_ => k_ ≠ gb101 ∧ k_ ≠ gb102 ∧ k_ ≠ gb157)) (Kd.R_types (Kd.R_types (Kd.R_types (HO160.out) BK101.out (by decide)) BK102.out (by decide)) BK157.out (by decide)) (fun k_ hk => ⟨hk.1.1.2, ⟨hk.1.2, hk.2⟩⟩))))) (Reps.one (show Kd.FK (Kd.slice 5 (Kd.int .u8)) _ _ t161 [.slice Ao112 t161.length co112] from (Kd.FK_slice_mk (Kd.R_reads' (Kd.R_mono (ok' := (fun k_ => k_ ≠ gb101 ∧ k_ ≠ gb102 ∧ k_ ≠ gb157)) (Kd.R_types (Kd.R_types (Kd.R_types (HO163.out) BK101.out (by decide)) BK102.out (by decide)) BK157.out (by decide)) (fun k_ hk => ⟨hk.1.1.2, ⟨hk.1.2, hk.2⟩⟩))).2.1 (Kd.R_F (Kd.R_mono (ok' := (fun k_ => k_ ≠ gb101 ∧ k_ ≠ gb102 ∧ k_ ≠ gb157)) (Kd.R_types (Kd.R_types (Kd.R_types (HO163.out) BK101.out (by decide)) BK102.out (by decide)) BK157.out (by decide)) (fun k_ hk => ⟨hk.1.1.2, ⟨hk.1.2, hk.2⟩⟩))))) (Reps.none _ _)))))
                 intro v165 w113 ho114 hb hg_ hnew_
                 clear hg_ hnew_
                 (first | rw [← Ny164.out] at ho114 | (simp only [Int.reduceToNat] at ho114; rw [← Ny164.out] at ho114))
                 have n0_ := Aside0.mk (Kd.N_lower ho114 (below_size (by repeat (first | (with_reducible first | exact HB.out | apply below_alloc | apply pw_below_drewN | apply below_drew1 | refine below_set ?_ GE101.out | refine below_set ?_ GE102.out | refine below_set ?_ GE157.out) | exact HB.out))))
                 have n1_ := Aside0.mk (blk_below (g := gb101) (o := .cells #[.slice A0_0 l0_0.length c0_0, .slice A0_1 l0_1.length c0_1, .slice A0_2 l0_2.length c0_2, .slice A0_3 l0_3.length c0_3, .slice A0_4 l0_4.length c0_4] 27 (0, 0)) (by (with_reducible repeat (first | refine blk_drewN ?_ _ | refine blk_drew ?_ | refine blk_alloc ?_ _)); exact BK101.out) hb)
                 have n2_ := Aside0.mk (blk_below (g := gb102) (o := .cells #[.int .i64 0, .int .i64 0, .int .i64 0, .int .i64 0, .int .i64 0, .int .i64 0, .int .i64 0] 35 (0, 0)) (by (with_reducible repeat (first | refine blk_drewN ?_ _ | refine blk_drew ?_ | refine blk_alloc ?_ _)); exact BK102.out) hb)
                 have n3_ := Aside0.mk (blk_below (g := gb157) (o := .cells #[.int .i64 a2, .int .i64 (l0_4.length : Int), .int .i64 (l0_3.length : Int), .int .i64 (l0_2.length : Int), .int .i64 (l0_1.length : Int), .int .i64 (l0_0.length : Int), .int .i64 (t117.size : Int)] 35 (0, 0)) (by (with_reducible repeat (first | refine blk_drewN ?_ _ | refine blk_drew ?_ | refine blk_alloc ?_ _)); exact BK157.out) hb)
                 have n4_ := Aside0.mk (below_step (by repeat (first | (with_reducible first | exact HB.out | apply below_alloc | apply pw_below_drewN | apply below_drew1 | refine below_set ?_ GE101.out | refine below_set ?_ GE102.out | refine below_set ?_ GE157.out) | exact HB.out)) hb)
                 clear BK101
                 clear BK102
                 clear BK157
                 clear HB
                 clear HO160
                 clear HO163
                 clear HO_9
                 have HO166 := n0_
                 have BK101 := n1_
                 have BK102 := n2_
                 have BK157 := n3_
                 have HB := n4_
                 clear n0_ n1_ n2_ n3_ n4_
                 clear hb ho114
                 obtain ⟨Ao115, co115, eo115⟩ := Kd.N_slice HO166.out
                 (first | subst eo115 | (injection eo115 with f1_ f2_ f3_; have f4_ := f1_.symm; have f5_ := f3_.symm; clear f1_ f2_ f3_; subst f4_; subst f5_))
                 refine hK.out _ _ ⟨(blk_cell BK101.out 0).trans rfl, (blk_cell BK101.out 1).trans rfl, (blk_cell BK101.out 2).trans rfl, (blk_cell BK101.out 3).trans rfl, (blk_cell BK101.out 4).trans rfl, (blk_cell BK157.out 0).trans rfl, (blk_cell BK157.out 1).trans rfl, (blk_cell BK157.out 2).trans rfl, (blk_cell BK157.out 3).trans rfl, (blk_cell BK157.out 4).trans rfl, (blk_cell BK157.out 5).trans rfl, (blk_cell BK157.out 6).trans rfl⟩ (fun hHeld => ?_)
                 clear hK K
                 refine norm_ (a' := ?_) ?_ ?_
                 rotate_left
                 ·
                  show Act.put _ (some 143) _ = _
                  simp only [Act.put, List.setIfInBounds_toArray, List.set_cons_zero, List.set_cons_succ, i64_w, i32_w]
                  rfl
                 refine one_ (i := 8) (N := some 144) #[true, true, true, true, true, true, true, true, true, true, false, false, false] rfl rfl (one_of HT_.out (by kernel_rfl)) (by decide) (fun K hK => ?_)
                 refine goes_ Try.func28 (by kernel_rfl) rfl #[.slice Ao115 y164.length co115] (by rfl) rfl rfl (by (try simp only [List.map_toArray, List.map_cons, List.map_nil]); first | done | rfl | (simp only [List.length_drop, List.length_take]; rfl)) ?_
                 with_reducible refine (slices_Concat_byte_byte.calls _ _ y164 t167 _ ?side1 ?side2 A99.out).mono ?_
                 (case side1 => repeat (first | exact (Kd.N_reads' HO166.out).2.2 | (with_reducible refine Kd.C_alloc ?_ _) | (with_reducible refine Kd.C_drewN ?_ _) | (with_reducible refine Kd.C_drew ?_)))
                 (case side2 => exact (Kd.N_reads' HO166.out).2.1)
                 rintro e w116 ⟨v168, rfl, ho0, hb⟩
                 refine ⟨_, rfl, ?_⟩
                 have n0_ := Aside0.mk (Kd.N_elder' (by (with_reducible repeat (first | apply Kd.N_alloc | apply Kd.N_drewN | apply Kd.N_drew)); exact HO166.out) (Kd.R_base ho0) hb)
                 have n1_ := Aside0.mk (Kd.R_lower ho0 (below_size (by repeat (first | (with_reducible first | exact HB.out | apply below_alloc | apply pw_below_drewN | apply below_drew1 | refine below_set ?_ GE101.out | refine below_set ?_ GE102.out | refine below_set ?_ GE157.out) | exact HB.out))))
                 have n2_ := Aside0.mk (blk_below (g := gb101) (o := .cells #[.slice A0_0 l0_0.length c0_0, .slice A0_1 l0_1.length c0_1, .slice A0_2 l0_2.length c0_2, .slice A0_3 l0_3.length c0_3, .slice A0_4 l0_4.length c0_4] 27 (0, 0)) (by (with_reducible repeat (first | refine blk_drewN ?_ _ | refine blk_drew ?_ | refine blk_alloc ?_ _)); exact BK101.out) hb)
                 have n3_ := Aside0.mk (blk_below (g := gb102) (o := .cells #[.int .i64 0, .int .i64 0, .int .i64 0, .int .i64 0, .int .i64 0, .int .i64 0, .int .i64 0] 35 (0, 0)) (by (with_reducible repeat (first | refine blk_drewN ?_ _ | refine blk_drew ?_ | refine blk_alloc ?_ _)); exact BK102.out) hb)
                 have n4_ := Aside0.mk (blk_below (g := gb157) (o := .cells #[.int .i64 a2, .int .i64 (l0_4.length : Int), .int .i64 (l0_3.length : Int), .int .i64 (l0_2.length : Int), .int .i64 (l0_1.length : Int), .int .i64 (l0_0.length : Int), .int .i64 (t117.size : Int)] 35 (0, 0)) (by (with_reducible repeat (first | refine blk_drewN ?_ _ | refine blk_drew ?_ | refine blk_alloc ?_ _)); exact BK157.out) hb)
                 have n5_ := Aside0.mk (below_step (by repeat (first | (with_reducible first | exact HB.out | apply below_alloc | apply pw_below_drewN | apply below_drew1 | refine below_set ?_ GE101.out | refine below_set ?_ GE102.out | refine below_set ?_ GE157.out) | exact HB.out)) hb)
                 clear HO166
                 clear BK101
                 clear BK102
                 clear BK157
                 clear HB
                 have HO166 := n0_
                 have HO169 := n1_
                 have BK101 := n2_
                 have BK102 := n3_
                 have BK157 := n4_
                 have HB := n5_
                 clear n0_ n1_ n2_ n3_ n4_ n5_
                 (try clear hb)
                 (try clear hb2)
                 (try clear hk)
                 (try clear hi)
                 (try clear ho0)
                 refine hK.out _ _ ⟨(blk_cell BK101.out 0).trans rfl, (blk_cell BK101.out 1).trans rfl, (blk_cell BK101.out 2).trans rfl, (blk_cell BK101.out 3).trans rfl, (blk_cell BK101.out 4).trans rfl, (blk_cell BK157.out 0).trans rfl, (blk_cell BK157.out 1).trans rfl, (blk_cell BK157.out 2).trans rfl, (blk_cell BK157.out 3).trans rfl, (blk_cell BK157.out 4).trans rfl, (blk_cell BK157.out 5).trans rfl, (blk_cell BK157.out 6).trans rfl⟩ (fun hHeld => ?_)
                 clear hK K
                 refine norm_ (a' := ?_) ?_ ?_
                 rotate_left
                 ·
                  show Act.put _ (some 144) _ = _
                  simp only [Act.put, List.setIfInBounds_toArray, List.set_cons_zero, List.set_cons_succ, i64_w, i32_w]
                  rfl
                 refine pure_ (i := 10) (N := some 6) (v := ?_) (a' := ?_) #[true, true, true, true, true, true, true, true, true, true, true, false, false] rfl rfl (any_of HT_.out (by kernel_rfl)) (fun _ _ _ h => h) (Or.inl ⟨by rfl, ?_⟩) ?_ ?_
                 rotate_left
                 ·
                  intro w'
                  go_simp
                  with_reducible rfl
                 rotate_left
                 ·
                  simp only [Act.put, List.setIfInBounds_toArray, List.set_cons_zero, List.set_cons_succ, i64_w, i32_w]
                  rfl
                 refine one_ (i := 11) (N := none) #[true, true, true, true, true, true, true, true, true, true, true, true, false] rfl rfl (one_of HT_.out (by kernel_rfl)) (by decide) (fun K hK => ?_)
                 have hs117 : w116.cell? ⟨gb102, 0, none⟩ = some (.int .i64 0) := (blk_cell BK102.out 0).trans rfl
                 have hfs117 := blk_frozen BK102.out 0
                 have hns117_0 := NB101_102.out
                 have hns117_2 := NB157_102.out
                 have hms117_0 := NB102_101.out
                 have hms117_2 := NB102_157.out
                 have hs118 : w116.cell? ⟨gb102, 1, none⟩ = some (.int .i64 0) := (blk_cell BK102.out 1).trans rfl
                 have hfs118 := blk_frozen BK102.out 1
                 have hns118_0 := NB101_102.out
                 have hns118_2 := NB157_102.out
                 have hms118_0 := NB102_101.out
                 have hms118_2 := NB102_157.out
                 have hs119 : w116.cell? ⟨gb102, 2, none⟩ = some (.int .i64 0) := (blk_cell BK102.out 2).trans rfl
                 have hfs119 := blk_frozen BK102.out 2
                 have hns119_0 := NB101_102.out
                 have hns119_2 := NB157_102.out
                 have hms119_0 := NB102_101.out
                 have hms119_2 := NB102_157.out
                 have hs120 : w116.cell? ⟨gb102, 3, none⟩ = some (.int .i64 0) := (blk_cell BK102.out 3).trans rfl
                 have hfs120 := blk_frozen BK102.out 3
                 have hns120_0 := NB101_102.out
                 have hns120_2 := NB157_102.out
                 have hms120_0 := NB102_101.out
                 have hms120_2 := NB102_157.out
                 have hs121 : w116.cell? ⟨gb102, 4, none⟩ = some (.int .i64 0) := (blk_cell BK102.out 4).trans rfl
                 have hfs121 := blk_frozen BK102.out 4
                 have hns121_0 := NB101_102.out
                 have hns121_2 := NB157_102.out
                 have hms121_0 := NB102_101.out
                 have hms121_2 := NB102_157.out
                 have hs122 : w116.cell? ⟨gb102, 5, none⟩ = some (.int .i64 0) := (blk_cell BK102.out 5).trans rfl
                 have hfs122 := blk_frozen BK102.out 5
                 have hns122_0 := NB101_102.out
                 have hns122_2 := NB157_102.out
                 have hms122_0 := NB102_101.out
                 have hms122_2 := NB102_157.out
                 have hs123 : w116.cell? ⟨gb102, 6, none⟩ = some (.int .i64 0) := (blk_cell BK102.out 6).trans rfl
                 have hfs123 := blk_frozen BK102.out 6
                 have hns123_0 := NB101_102.out
                 have hns123_2 := NB157_102.out
                 have hms123_0 := NB102_101.out
                 have hms123_2 := NB102_157.out
                 refine skip_ (w1 := ?_) (by rfl) rfl ?_ ?_
                 rotate_left
                 ·
                  go_simp
                  rfl
                 refine hK.out _ _ ⟨((cell_far (p := ⟨gb102, _, none⟩) NB101_102.out _).trans (((cell_far (p := ⟨gb102, _, none⟩) NB101_102.out _).trans (((cell_far (p := ⟨gb102, _, none⟩) NB101_102.out _).trans (((cell_far (p := ⟨gb102, _, none⟩) NB101_102.out _).trans (((cell_far (p := ⟨gb102, _, none⟩) NB101_102.out _).trans (((cell_far (p := ⟨gb102, _, none⟩) NB101_102.out _).trans (((cell_far (p := ⟨gb102, _, none⟩) NB101_102.out _).trans (hHeld.1)))))))))))))), ((cell_far (p := ⟨gb102, _, none⟩) NB101_102.out _).trans (((cell_far (p := ⟨gb102, _, none⟩) NB101_102.out _).trans (((cell_far (p := ⟨gb102, _, none⟩) NB101_102.out _).trans (((cell_far (p := ⟨gb102, _, none⟩) NB101_102.out _).trans (((cell_far (p := ⟨gb102, _, none⟩) NB101_102.out _).trans (((cell_far (p := ⟨gb102, _, none⟩) NB101_102.out _).trans (((cell_far (p := ⟨gb102, _, none⟩) NB101_102.out _).trans (hHeld.2.1)))))))))))))), ((cell_far (p := ⟨gb102, _, none⟩) NB101_102.out _).trans (((cell_far (p := ⟨gb102, _, none⟩) NB101_102.out _).trans (((cell_far (p := ⟨gb102, _, none⟩) NB101_102.out _).trans (((cell_far (p := ⟨gb102, _, none⟩) NB101_102.out _).trans (((cell_far (p := ⟨gb102, _, none⟩) NB101_102.out _).trans (((cell_far (p := ⟨gb102, _, none⟩) NB101_102.out _).trans (((cell_far (p := ⟨gb102, _, none⟩) NB101_102.out _).trans (hHeld.2.2.1)))))))))))))), ((cell_far (p := ⟨gb102, _, none⟩) NB101_102.out _).trans (((cell_far (p := ⟨gb102, _, none⟩) NB101_102.out _).trans (((cell_far (p := ⟨gb102, _, none⟩) NB101_102.out _).trans (((cell_far (p := ⟨gb102, _, none⟩) NB101_102.out _).trans (((cell_far (p := ⟨gb102, _, none⟩) NB101_102.out _).trans (((cell_far (p := ⟨gb102, _, none⟩) NB101_102.out _).trans (((cell_far (p := ⟨gb102, _, none⟩) NB101_102.out _).trans (hHeld.2.2.2.1)))))))))))))), ((cell_far (p := ⟨gb102, _, none⟩) NB101_102.out _).trans (((cell_far (p := ⟨gb102, _, none⟩) NB101_102.out _).trans (((cell_far (p := ⟨gb102, _, none⟩) NB101_102.out _).trans (((cell_far (p := ⟨gb102, _, none⟩) NB101_102.out _).trans (((cell_far (p := ⟨gb102, _, none⟩) NB101_102.out _).trans (((cell_far (p := ⟨gb102, _, none⟩) NB101_102.out _).trans (((cell_far (p := ⟨gb102, _, none⟩) NB101_102.out _).trans (hHeld.2.2.2.2.1)))))))))))))), ((cell_far (p := ⟨gb102, _, none⟩) NB157_102.out _).trans (((cell_far (p := ⟨gb102, _, none⟩) NB157_102.out _).trans (((cell_far (p := ⟨gb102, _, none⟩) NB157_102.out _).trans (((cell_far (p := ⟨gb102, _, none⟩) NB157_102.out _).trans (((cell_far (p := ⟨gb102, _, none⟩) NB157_102.out _).trans (((cell_far (p := ⟨gb102, _, none⟩) NB157_102.out _).trans (((cell_far (p := ⟨gb102, _, none⟩) NB157_102.out _).trans (hHeld.2.2.2.2.2.1)))))))))))))), ((cell_far (p := ⟨gb102, _, none⟩) NB157_102.out _).trans (((cell_far (p := ⟨gb102, _, none⟩) NB157_102.out _).trans (((cell_far (p := ⟨gb102, _, none⟩) NB157_102.out _).trans (((cell_far (p := ⟨gb102, _, none⟩) NB157_102.out _).trans (((cell_far (p := ⟨gb102, _, none⟩) NB157_102.out _).trans (((cell_far (p := ⟨gb102, _, none⟩) NB157_102.out _).trans (((cell_far (p := ⟨gb102, _, none⟩) NB157_102.out _).trans (hHeld.2.2.2.2.2.2.1)))))))))))))), ((cell_far (p := ⟨gb102, _, none⟩) NB157_102.out _).trans (((cell_far (p := ⟨gb102, _, none⟩) NB157_102.out _).trans (((cell_far (p := ⟨gb102, _, none⟩) NB157_102.out _).trans (((cell_far (p := ⟨gb102, _, none⟩) NB157_102.out _).trans (((cell_far (p := ⟨gb102, _, none⟩) NB157_102.out _).trans (((cell_far (p := ⟨gb102, _, none⟩) NB157_102.out _).trans (((cell_far (p := ⟨gb102, _, none⟩) NB157_102.out _).trans (hHeld.2.2.2.2.2.2.2.1)))))))))))))), ((cell_far (p := ⟨gb102, _, none⟩) NB157_102.out _).trans (((cell_far (p := ⟨gb102, _, none⟩) NB157_102.out _).trans (((cell_far (p := ⟨gb102, _, none⟩) NB157_102.out _).trans (((cell_far (p := ⟨gb102, _, none⟩) NB157_102.out _).trans (((cell_far (p := ⟨gb102, _, none⟩) NB157_102.out _).trans (((cell_far (p := ⟨gb102, _, none⟩) NB157_102.out _).trans (((cell_far (p := ⟨gb102, _, none⟩) NB157_102.out _).trans (hHeld.2.2.2.2.2.2.2.2.1)))))))))))))), ((cell_far (p := ⟨gb102, _, none⟩) NB157_102.out _).trans (((cell_far (p := ⟨gb102, _, none⟩) NB157_102.out _).trans (((cell_far (p := ⟨gb102, _, none⟩) NB157_102.out _).trans (((cell_far (p := ⟨gb102, _, none⟩) NB157_102.out _).trans (((cell_far (p := ⟨gb102, _, none⟩) NB157_102.out _).trans (((cell_far (p := ⟨gb102, _, none⟩) NB157_102.out _).trans (((cell_far (p := ⟨gb102, _, none⟩) NB157_102.out _).trans (hHeld.2.2.2.2.2.2.2.2.2.1)))))))))))))), ((cell_far (p := ⟨gb102, _, none⟩) NB157_102.out _).trans (((cell_far (p := ⟨gb102, _, none⟩) NB157_102.out _).trans (((cell_far (p := ⟨gb102, _, none⟩) NB157_102.out _).trans (((cell_far (p := ⟨gb102, _, none⟩) NB157_102.out _).trans (((cell_far (p := ⟨gb102, _, none⟩) NB157_102.out _).trans (((cell_far (p := ⟨gb102, _, none⟩) NB157_102.out _).trans (((cell_far (p := ⟨gb102, _, none⟩) NB157_102.out _).trans (hHeld.2.2.2.2.2.2.2.2.2.2.1)))))))))))))), ((cell_far (p := ⟨gb102, _, none⟩) NB157_102.out _).trans (((cell_far (p := ⟨gb102, _, none⟩) NB157_102.out _).trans (((cell_far (p := ⟨gb102, _, none⟩) NB157_102.out _).trans (((cell_far (p := ⟨gb102, _, none⟩) NB157_102.out _).trans (((cell_far (p := ⟨gb102, _, none⟩) NB157_102.out _).trans (((cell_far (p := ⟨gb102, _, none⟩) NB157_102.out _).trans (((cell_far (p := ⟨gb102, _, none⟩) NB157_102.out _).trans (hHeld.2.2.2.2.2.2.2.2.2.2.2))))))))))))))⟩ (fun hHeld => ?_)
                 clear hK K
                 refine pure_ (i := 12) (N := some 8) (v := ?_) (a' := ?_) #[true, true, true, true, true, true, true, true, true, true, true, true, true] rfl rfl (any_of HT_.out (by kernel_rfl)) (fun _ _ _ h => h) (Or.inl ⟨by rfl, ?_⟩) ?_ ?_
                 rotate_left
                 ·
                  intro w'
                  go_simp
                  with_reducible rfl
                 rotate_left
                 ·
                  simp only [Act.put, List.setIfInBounds_toArray, List.set_cons_zero, List.set_cons_succ, i64_w, i32_w]
                  rfl
                 refine done_ (done_of HT_.out (by kernel_rfl)) ?_
                 try go_wp2
                 refine bodyPost_ret (results_list (rs := [.tmp 6, .cell 7 35, .tmp 8]) rfl (by simp) (.tmp (.cell gb102 35 #[.int .i64 a2, .int .i64 (l0_4.length : Int), .int .i64 (l0_3.length : Int), .int .i64 (l0_2.length : Int), .int .i64 (l0_1.length : Int), .int .i64 (l0_0.length : Int), .int .i64 (t117.size : Int)] (0, 0) _ rfl (by (with_reducible repeat (first | refine blk_drewN ?_ _ | refine blk_drew ?_ | refine blk_alloc ?_ _)); refine blk_put (cs := #[.int .i64 a2, .int .i64 (l0_4.length : Int), .int .i64 (l0_3.length : Int), .int .i64 (l0_2.length : Int), .int .i64 (l0_1.length : Int), .int .i64 (l0_0.length : Int), .int .i64 0]) ?_ 6 _ rfl; (with_reducible repeat (first | refine blk_drewN ?_ _ | refine blk_drew ?_ | refine blk_alloc ?_ _)); refine blk_put (cs := #[.int .i64 a2, .int .i64 (l0_4.length : Int), .int .i64 (l0_3.length : Int), .int .i64 (l0_2.length : Int), .int .i64 (l0_1.length : Int), .int .i64 0, .int .i64 0]) ?_ 5 _ rfl; (with_reducible repeat (first | refine blk_drewN ?_ _ | refine blk_drew ?_ | refine blk_alloc ?_ _)); refine blk_put (cs := #[.int .i64 a2, .int .i64 (l0_4.length : Int), .int .i64 (l0_3.length : Int), .int .i64 (l0_2.length : Int), .int .i64 0, .int .i64 0, .int .i64 0]) ?_ 4 _ rfl; (with_reducible repeat (first | refine blk_drewN ?_ _ | refine blk_drew ?_ | refine blk_alloc ?_ _)); refine blk_put (cs := #[.int .i64 a2, .int .i64 (l0_4.length : Int), .int .i64 (l0_3.length : Int), .int .i64 0, .int .i64 0, .int .i64 0, .int .i64 0]) ?_ 3 _ rfl; (with_reducible repeat (first | refine blk_drewN ?_ _ | refine blk_drew ?_ | refine blk_alloc ?_ _)); refine blk_put (cs := #[.int .i64 a2, .int .i64 (l0_4.length : Int), .int .i64 0, .int .i64 0, .int .i64 0, .int .i64 0, .int .i64 0]) ?_ 2 _ rfl; (with_reducible repeat (first | refine blk_drewN ?_ _ | refine blk_drew ?_ | refine blk_alloc ?_ _)); refine blk_put (cs := #[.int .i64 a2, .int .i64 0, .int .i64 0, .int .i64 0, .int .i64 0, .int .i64 0, .int .i64 0]) ?_ 1 _ rfl; (with_reducible repeat (first | refine blk_drewN ?_ _ | refine blk_drew ?_ | refine blk_alloc ?_ _)); refine blk_put (cs := #[.int .i64 0, .int .i64 0, .int .i64 0, .int .i64 0, .int .i64 0, .int .i64 0, .int .i64 0]) ?_ 0 _ rfl; (with_reducible repeat (first | refine blk_drewN ?_ _ | refine blk_drew ?_ | refine blk_alloc ?_ _)); exact BK102.out) Try.underlying35 rfl (by kernel_rfl) (.tmp .nil)))) rfl ?_
                 exact ⟨_, by first | rfl | (simp [errW_none, errW_some] <;> rfl) | (simp [*, errW_none, errW_some] <;> rfl), by (with_reducible repeat (first | apply Kd.R_alloc | apply Kd.R_drewN | apply Kd.R_drew)); exact Kd.R_mono (Kd.R_far (p := ⟨gb102, 6, none⟩) (Kd.R_far (p := ⟨gb102, 5, none⟩) (Kd.R_far (p := ⟨gb102, 4, none⟩) (Kd.R_far (p := ⟨gb102, 3, none⟩) (Kd.R_far (p := ⟨gb102, 2, none⟩) (Kd.R_far (p := ⟨gb102, 1, none⟩) (Kd.R_far (p := ⟨gb102, 0, none⟩) (Kd.R_types HO169.out BK102.out (by decide)) (fun _ hk => hk.2) (.int .i64 a2)) (fun _ hk => hk.2) (.int .i64 (l0_4.length : Int))) (fun _ hk => hk.2) (.int .i64 (l0_3.length : Int))) (fun _ hk => hk.2) (.int .i64 (l0_2.length : Int))) (fun _ hk => hk.2) (.int .i64 (l0_1.length : Int))) (fun _ hk => hk.2) (.int .i64 (l0_0.length : Int))) (fun _ hk => hk.2) (.int .i64 (t117.size : Int))) (fun _ hk => trivial), by repeat (first | (with_reducible first | exact HB.out | apply below_alloc | apply pw_below_drewN | apply below_drew1 | refine below_set ?_ GE101.out | refine below_set ?_ GE102.out | refine below_set ?_ GE157.out) | exact HB.out)⟩
             ·
              rw [if_neg c76] at H
              exact absurd H (by simp)
end Go.Proofs.Ythobnoknbdljgaa.PE
end
