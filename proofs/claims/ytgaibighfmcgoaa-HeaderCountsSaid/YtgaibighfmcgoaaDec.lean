/- What the header's two readers come to, in one closed form. -/
import Derived.Test.YtgaibighfmcgoaaFacts
import Derived.Test.YtgaibighfmcgoaaPHdrAx4
import Derived.OpenShut
namespace Go.Proofs.Ytgaibighfmcgoaa.Hand
open Go.RowKit Go.Proofs.YtgaibighfmcgoaaW.PrintWords Go.Proofs.YtgaibighfmcgoaaW.PrintLast Go.Proofs.YtgaibighfmcgoaaW.PrintMore Go.Proofs.Ytgaibighfmcgoaa.PHdrA
set_option linter.unusedVariables false
set_option linter.unusedSimpArgs false
theorem uint4_f (l0 : List Int) (hb : Bytes l0) (a : Nat) (h3 : a + 4 ≤ l0.length) : octets_Uint.f l0 (a : Int) 4 = some (bval ((l0.take (a + 4)).drop a), true) := by
  unfold octets_Uint.f
  rw [if_pos (by omega)]
  simp only [Int.toNat_natCast, Int.reduceToNat]
  rw [uval_bval _ ((hb.take _).drop _) (by simp; omega)]
/-- the number in the i-th four bytes behind the twentieth -/
def num4 (l0 : List Int) (i : Nat) : Int := bval ((l0.take (20 + 4 * i + 4)).drop (20 + 4 * i))
theorem num4_bd (l0 : List Int) (hb : Bytes l0) (i : Nat) (h : 20 + 4 * i + 4 ≤ l0.length) : 0 ≤ num4 l0 i ∧ num4 l0 i < 4294967296 := by
  have h1 := bval_bd _ ((hb.take (20 + 4 * i + 4)).drop (20 + 4 * i))
  have e : ((l0.take (20 + 4 * i + 4)).drop (20 + 4 * i)).length = 4 := by simp; omega
  have h2 : (256 : Int) ^ 4 = 4294967296 := by decide +kernel
  rw [e, h2] at h1
  exact h1
theorem getN_f (l0 : List Int) (hb : Bytes l0) (hl : 44 ≤ l0.length) : getN l0 6 0 [0, 0, 0, 0, 0, 0] = some [num4 l0 0, num4 l0 1, num4 l0 2, num4 l0 3, num4 l0 4, num4 l0 5] := by
  have key : ∀ i : Nat, i < 6 → octets_Uint.f l0 (20 + (i : Int) * 4) 4 = some (num4 l0 i, true) := by
    intro i hi
    have := uint4_f l0 hb (20 + 4 * i) (by omega)
    have e : ((20 + 4 * i : Nat) : Int) = 20 + (i : Int) * 4 := by omega
    rw [e] at this
    exact this
  have kw : ∀ i : Nat, i < 6 → wrap64 (num4 l0 i) = num4 l0 i := fun i hi => by
    have := num4_bd l0 hb i (by omega)
    exact w64 (by omega) (by omega)
  simp only [getN]
  rw [key 0 (by omega), Option.bind_some, key (0 + 1) (by omega), Option.bind_some, key (0 + 1 + 1) (by omega), Option.bind_some, key (0 + 1 + 1 + 1) (by omega), Option.bind_some, key (0 + 1 + 1 + 1 + 1) (by omega), Option.bind_some, key (0 + 1 + 1 + 1 + 1 + 1) (by omega), Option.bind_some]
  simp only [Nat.reduceAdd]
  rw [kw 0 (by omega), kw 1 (by omega), kw 2 (by omega), kw 3 (by omega), kw 4 (by omega), kw 5 (by omega)]
  rfl
def magicP (l0 : List Int) : Prop := (strOfNums (l0.take 4)).toList = ([84, 90, 105, 102] : List UInt8)
instance (l0 : List Int) : Decidable (magicP l0) := by unfold magicP; infer_instance
theorem prefix_f (l0 : List Int) (hl : 44 ≤ l0.length) : bytes_HasPrefix.f l0 [84, 90, 105, 102] = some (decide (magicP l0)) := by
  unfold bytes_HasPrefix.f bytes_Equal.f
  have e4 : (([84, 90, 105, 102] : List Int).length : Int) = 4 := rfl
  have em : (strOfNums [84, 90, 105, 102]).toList = ([84, 90, 105, 102] : List UInt8) := by decide +kernel
  rw [e4, if_pos (by omega), if_pos (by decide), if_pos (by omega), Option.bind_some, em]
  show some ((strOfNums (l0.take 4)).toList == ([84, 90, 105, 102] : List UInt8)) = _
  congr 1
  rw [Bool.eq_iff_iff, beq_iff_eq, decide_eq_true_iff]
  rfl
def verOf (c : Int) : Int := if c = 0 then 1 else c - 48
theorem rd_bd (l0 : List Int) (hb : Bytes l0) (i : Nat) (h : i < l0.length) : 0 ≤ rd l0 (i : Int) ∧ rd l0 (i : Int) < 256 := by
  rw [rd_at, List.getD_eq_getElem?_getD, List.getElem?_eq_getElem h]
  exact hb _ (List.getElem_mem h)
theorem decVersion_eq (l0 : List Int) (hb : Bytes l0) (h : 4 < l0.length) : decVersion l0 = verOf (rd l0 4) := by
  have : 0 ≤ rd l0 4 ∧ rd l0 4 < 256 := rd_bd l0 hb 4 h
  unfold decVersion verOf
  split
  · rfl
  · rw [w64 (n := rd l0 4) (by omega) (by omega), w64 (by omega) (by omega)]
def decP (l0 : List Int) : Prop := magicP l0 ∧ (rd l0 4 = 0 ∨ 50 ≤ rd l0 4 ∧ rd l0 4 ≤ 52) ∧ rightP (verOf (rd l0 4)) (num4 l0 0) (num4 l0 1) (num4 l0 2) (num4 l0 3) (num4 l0 4) (num4 l0 5)
instance (l0 : List Int) : Decidable (decP l0) := by unfold decP; infer_instance
def decOK (l0 : List Int) : Int × Int × Int × Int × Int × Int × Int × Int := (verOf (rd l0 4), num4 l0 0, num4 l0 1, num4 l0 2, num4 l0 3, num4 l0 4, num4 l0 5, 0)
def dec (l0 : List Int) : Int × Int × Int × Int × Int × Int × Int × Int :=
  if l0.length < 44 then (0, 0, 0, 0, 0, 0, 0, 5) else if decP l0 then decOK l0 else (0, 0, 0, 0, 0, 0, 0, 4)
theorem decode_f (l0 : List Int) (hb : Bytes l0) : header_Decode.f l0 = some (dec l0) := by
  unfold header_Decode.f dec
  by_cases hl : l0.length < 44
  · rw [if_pos hl, if_pos hl]
  · rw [if_neg hl, if_neg hl, getN_f l0 hb (by omega), Option.bind_some, prefix_f l0 (by omega), Option.bind_some, decVersion_eq l0 hb (by omega)]
    have hc := rd_bd l0 hb 4 (by omega)
    have hc' : 0 ≤ rd l0 4 ∧ rd l0 4 < 256 := hc
    simp only [List.getD_cons_zero, List.getD_cons_succ]
    rw [right_f, Option.bind_some]
    by_cases hm : magicP l0
    · rw [if_pos (decide_eq_true hm)]
      by_cases hr : rightP (verOf (rd l0 4)) (num4 l0 0) (num4 l0 1) (num4 l0 2) (num4 l0 3) (num4 l0 4) (num4 l0 5)
      · rw [if_pos (decide_eq_true hr)]
        have hv := hr.1
        by_cases h49 : verOf (rd l0 4) = 1 ∧ rd l0 4 ≠ 0
        · rw [if_pos h49, if_neg]
          · rfl
          · rintro ⟨_, h, _⟩
            have h1 := h49.1
            have h2 := h49.2
            unfold verOf at h1
            rw [if_neg h2] at h1
            omega
        · rw [if_neg h49, if_pos]
          · rfl
          · refine ⟨hm, ?_, hr⟩
            unfold verOf at hv h49
            by_cases h0 : rd l0 4 = 0
            · exact .inl h0
            · rw [if_neg h0] at hv h49
              right
              by_cases h4 : rd l0 4 = 49
              · exact absurd ⟨by omega, h0⟩ h49
              · omega
      · rw [if_neg (by simpa using hr), if_neg (fun h => hr h.2.2)]
        rfl
    · rw [if_neg (by simpa using hm), if_neg (fun h => hm h.1)]
      rfl
theorem ruint_l (l0 : List Int) (hb : Bytes l0) (a : Nat) (hlen : l0.length < 140737488350000) (h3 : a + 4 ≤ l0.length) : ∀ (m k i : Nat), m + i = 4 → m < k → longcaseref04_Uint.l0 k l0 (a : Int) 4 (bval ((l0.take (a + i)).drop a)) (i : Int) = some (bval ((l0.take (a + 4)).drop a), true)
  | 0, k, i, hm, hk => by
    obtain ⟨k, rfl⟩ : ∃ j, k = j + 1 := ⟨k - 1, by omega⟩
    obtain rfl : i = 4 := by omega
    simp only [longcaseref04_Uint.l0]
    rw [if_neg (by omega)]
  | m + 1, k, i, hm, hk => by
    obtain ⟨k, rfl⟩ : ∃ j, k = j + 1 := ⟨k - 1, by omega⟩
    simp only [longcaseref04_Uint.l0]
    have e1 : wrap64 ((a : Int) + (i : Int)) = ((a + i : Nat) : Int) := by rw [w64 (by omega) (by omega)]; omega
    have e2 : wrap64 ((i : Int) + 1) = ((i + 1 : Nat) : Int) := by rw [w64 (by omega) (by omega)]; omega
    have hbd := bval_bd _ ((hb.take (a + i)).drop a)
    have hle : ((l0.take (a + i)).drop a).length = i := by simp; omega
    have hx := rd_bd l0 hb (a + i) (by omega)
    have hp : (256 : Int) ^ i ≤ 256 ^ 3 := pow_mono' (by omega)
    have h3' : (256 : Int) ^ 3 = 16777216 := by decide +kernel
    rw [hle] at hbd
    have e3 : (l0.take (a + (i + 1))).drop a = (l0.take (a + i)).drop a ++ [rd l0 ((a + i : Nat) : Int)] := by
      rw [rd_at, ← Nat.add_assoc, List.take_succ_eq_append_getElem (by omega), List.drop_append_of_le_length (by simp; omega)]
      congr 2
      rw [List.getD_eq_getElem?_getD, List.getElem?_eq_getElem (by omega)]
      rfl
    rw [if_pos (by omega), e1, if_pos (by omega), if_pos (by omega), e2]
    have e4 : IntKind.u64.wrap (IntKind.u64.wrap (bval ((l0.take (a + i)).drop a) * 256) + IntKind.u64.wrap (rd l0 ((a + i : Nat) : Int))) = bval ((l0.take (a + (i + 1))).drop a) := by
      rw [e3, bval_snoc]
      generalize bval ((l0.take (a + i)).drop a) = B at *
      generalize rd l0 ((a + i : Nat) : Int) = X at *
      rw [IntKind.wrap_u64, IntKind.wrap_u64, IntKind.wrap_u64]
      omega
    rw [e4]
    exact ruint_l l0 hb a hlen h3 m k (i + 1) (by omega) (by omega)
theorem ruint4_f (l0 : List Int) (hb : Bytes l0) (a : Nat) (hlen : l0.length < 140737488350000) (h3 : a + 4 ≤ l0.length) (k : Nat) (hk : 6 ≤ k) : longcaseref04_Uint.f k l0 (a : Int) 4 = some (bval ((l0.take (a + 4)).drop a), true) := by
  obtain ⟨k, rfl⟩ : ∃ j, k = j + 1 := ⟨k - 1, by omega⟩
  unfold longcaseref04_Uint.f
  rw [if_neg (by omega), if_neg (by omega), if_neg (by omega), w64 (by omega) (by omega), decide_eq_false (by omega)]
  simp only [longcaseref04_Uint.j0]
  rw [if_neg (by decide)]
  have := ruint_l l0 hb a hlen h3 4 k 0 (by omega) (by omega)
  simpa [bval] using this
theorem rdec_l (l0 : List Int) (hb : Bytes l0) (hl : 44 ≤ l0.length) (hlen : l0.length < 140737488350000) (v : Int) : ∀ (m k i : Nat), m + i = 6 → 10 + m < k → longcaseref05_Decode.l0 k l0 ((List.range i).map fun j => num4 l0 j) (i : Int) v 0 0 0 0 0 0 = some (if rightP v (num4 l0 0) (num4 l0 1) (num4 l0 2) (num4 l0 3) (num4 l0 4) (num4 l0 5) then (v, num4 l0 0, num4 l0 1, num4 l0 2, num4 l0 3, num4 l0 4, num4 l0 5, 0) else (0, 0, 0, 0, 0, 0, 0, 4))
  | 0, k, i, hm, hk => by
    obtain ⟨k, rfl⟩ : ∃ j, k = j + 2 := ⟨k - 2, by omega⟩
    obtain rfl : i = 6 := by omega
    have e : ((List.range 6).map fun j => num4 l0 j) = [num4 l0 0, num4 l0 1, num4 l0 2, num4 l0 3, num4 l0 4, num4 l0 5] := rfl
    rw [e]
    simp only [longcaseref05_Decode.l0]
    rw [if_neg (by omega), if_pos (by simp), if_pos (by simp), if_pos (by simp), if_pos (by simp), if_pos (by simp), if_pos (by simp)]
    have r0 : rd [num4 l0 0, num4 l0 1, num4 l0 2, num4 l0 3, num4 l0 4, num4 l0 5] 0 = num4 l0 0 := rfl
    have r1 : rd [num4 l0 0, num4 l0 1, num4 l0 2, num4 l0 3, num4 l0 4, num4 l0 5] 1 = num4 l0 1 := rfl
    have r2 : rd [num4 l0 0, num4 l0 1, num4 l0 2, num4 l0 3, num4 l0 4, num4 l0 5] 2 = num4 l0 2 := rfl
    have r3 : rd [num4 l0 0, num4 l0 1, num4 l0 2, num4 l0 3, num4 l0 4, num4 l0 5] 3 = num4 l0 3 := rfl
    have r4 : rd [num4 l0 0, num4 l0 1, num4 l0 2, num4 l0 3, num4 l0 4, num4 l0 5] 4 = num4 l0 4 := rfl
    have r5 : rd [num4 l0 0, num4 l0 1, num4 l0 2, num4 l0 3, num4 l0 4, num4 l0 5] 5 = num4 l0 5 := rfl
    rw [r0, r1, r2, r3, r4, r5, rright_f k, Option.bind_some]
    by_cases hr : rightP v (num4 l0 0) (num4 l0 1) (num4 l0 2) (num4 l0 3) (num4 l0 4) (num4 l0 5)
    · rw [if_pos (decide_eq_true hr), if_pos hr]
    · rw [if_neg (by simpa using hr), if_neg hr]
  | m + 1, k, i, hm, hk => by
    obtain ⟨k, rfl⟩ : ∃ j, k = j + 1 := ⟨k - 1, by omega⟩
    simp only [longcaseref05_Decode.l0]
    have e1 : wrap64 (20 + wrap64 (4 * (i : Int))) = ((20 + 4 * i : Nat) : Int) := by rw [w64 (n := 4 * (i : Int)) (by omega) (by omega), w64 (by omega) (by omega)]; omega
    have e2 : wrap64 ((i : Int) + 1) = ((i + 1 : Nat) : Int) := by rw [w64 (by omega) (by omega)]; omega
    have hbd := num4_bd l0 hb i (by omega)
    rw [if_pos (by omega), e1, ruint4_f l0 hb (20 + 4 * i) hlen (by omega) k (by omega), Option.bind_some, if_pos (by simp; omega), e2]
    have e3 : ((List.range i).map fun j => num4 l0 j) ++ [wrap64 (bval ((l0.take (20 + 4 * i + 4)).drop (20 + 4 * i)), true).1] = (List.range (i + 1)).map fun j => num4 l0 j := by
      rw [List.range_succ, List.map_append]
      congr 2
      exact w64 (n := num4 l0 i) (by omega) (by omega)
    rw [e3]
    exact rdec_l l0 hb hl hlen v m k (i + 1) (by omega) (by omega)
theorem rdecode_f (l0 : List Int) (hb : Bytes l0) (hlen : l0.length < 140737488350000) (k : Nat) (hk : 30 ≤ k) : longcaseref05_Decode.f k l0 = some (dec l0) := by
  obtain ⟨k, rfl⟩ : ∃ j, k = j + 1 := ⟨k - 1, by omega⟩
  unfold longcaseref05_Decode.f dec
  by_cases hl : l0.length < 44
  · rw [if_pos (by omega), if_pos hl]
  · rw [if_neg (by omega), if_neg hl, if_pos (by omega)]
    have hc : 0 ≤ rd l0 4 ∧ rd l0 4 < 256 := rd_bd l0 hb 4 (by omega)
    by_cases hm : magicP l0
    · have hj := fun v => rdec_l l0 hb (by omega) hlen v 6 k 0 (by omega) (by omega)
      rw [if_pos (show (strOfNums (l0.take 4)).toList = _ from hm), if_pos (by omega)]
      by_cases h0 : rd l0 4 = 0
      · rw [if_pos h0]
        simp only [longcaseref05_Decode.j0]
        refine (hj 1).trans ?_
        have hv : verOf (rd l0 4) = 1 := by unfold verOf; rw [if_pos h0]
        by_cases hr : rightP 1 (num4 l0 0) (num4 l0 1) (num4 l0 2) (num4 l0 3) (num4 l0 4) (num4 l0 5)
        · rw [if_pos hr, if_pos ⟨hm, .inl h0, by rw [hv]; exact hr⟩, decOK, hv]
        · rw [if_neg hr, if_neg (fun h => hr (by have h_ := h.2.2; rw [hv] at h_; exact h_))]
      · rw [if_neg h0]
        have hv : verOf (rd l0 4) = rd l0 4 - 48 := by unfold verOf; rw [if_neg h0]
        by_cases h1 : rd l0 4 < 50
        · rw [if_pos h1, if_neg (fun h => by have h_ := h.2.1; omega)]
        · rw [if_neg h1]
          by_cases h2 : rd l0 4 > 52
          · rw [if_pos h2, if_neg (fun h => by have h_ := h.2.1; omega)]
          · rw [if_neg h2]
            simp only [longcaseref05_Decode.j0]
            have e : (rd l0 4 - 48) % 256 = rd l0 4 - 48 := by omega
            rw [e]
            refine (hj _).trans ?_
            by_cases hr : rightP (rd l0 4 - 48) (num4 l0 0) (num4 l0 1) (num4 l0 2) (num4 l0 3) (num4 l0 4) (num4 l0 5)
            · rw [if_pos hr, if_pos ⟨hm, .inr (by omega), by rw [hv]; exact hr⟩, decOK, hv]
            · rw [if_neg hr, if_neg (fun h => hr (by have h_ := h.2.2; rw [hv] at h_; exact h_))]
    · rw [if_neg (show ¬ (strOfNums (l0.take 4)).toList = _ from hm), if_neg (fun h => hm h.1)]
theorem decode_c (A : Option Addr) (c n : Nat) (l : List Int) (w : World) (r1 r2 r3 r4 r5 r6 r7 r8 : Int) (hn : l.length = n) (hb : Bytes l) (hr : Kd.C (Kd.int .u8) w A n l) (hc : n ≤ c) (hd : dec l = (r1, r2, r3, r4, r5, r6, r7, r8)) :
    Calls Try.prog 17 #[.slice A n c] w fun e w' => e = .returned (.tuple #[.agg #[.int .i64 r1, .int .i64 r2, .int .i64 r3, .int .i64 r4, .int .i64 r5, .int .i64 r6, .int .i64 r7], .int .i64 r8]) ∧ Below w.heap.size w w' := by
  subst hn
  exact header_Decode.calls A c l r1 r2 r3 r4 r5 r6 r7 r8 w hr hc (by rw [decode_f l hb, hd])
theorem rdecode_c (A : Option Addr) (c n : Nat) (l : List Int) (w : World) (r1 r2 r3 r4 r5 r6 r7 r8 : Int) (hn : l.length = n) (hs : n < 140737488350000) (hb : Bytes l) (hr : Kd.C (Kd.int .u8) w A n l) (hc : n ≤ c) (hd : dec l = (r1, r2, r3, r4, r5, r6, r7, r8)) :
    Calls Try.prog 18 #[.slice A n c] w fun e w' => e = .returned (.tuple #[.agg #[.int .i64 r1, .int .i64 r2, .int .i64 r3, .int .i64 r4, .int .i64 r5, .int .i64 r6, .int .i64 r7], .int .i64 r8]) ∧ Below w.heap.size w w' := by
  subst hn
  exact longcaseref05_Decode.calls 30 A c l r1 r2 r3 r4 r5 r6 r7 r8 w hr hc (by rw [rdecode_f l hb hs 30 (by omega), hd])
theorem dec_parts (l : List Int) : ∃ r1 r2 r3 r4 r5 r6 r7 r8, dec l = (r1, r2, r3, r4, r5, r6, r7, r8) := ⟨_, _, _, _, _, _, _, _, rfl⟩
theorem bytes_of_wf {l : List Int} (h : ∀ x ∈ l, (Lit.int .u8 x).wf = true) : Bytes l := fun x hx => by
  have := bounds_u8 (h x hx); omega
end Go.Proofs.Ytgaibighfmcgoaa.Hand
