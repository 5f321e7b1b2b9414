/- The plain laws of headers' bytes. -/
import Derived.Test.YtgaibighfmcgoaaDec
import Derived.Lib.Bytes
namespace Go.Proofs.Ytgaibighfmcgoaa.Hand
open Go.RowKit Go.Proofs.YtgaibighfmcgoaaW.PrintWords Go.Proofs.Ytgaibighfmcgoaa.PHdrA
set_option linter.unusedVariables false
set_option linter.unusedSimpArgs false
theorem magic_iff (l : List Int) (hb : Bytes l) : (strOfNums l).toList = ([84, 90, 105, 102] : List UInt8) ↔ l = [84, 90, 105, 102] := by
  rw [Lib.strOfNums_toList]
  constructor
  · intro h
    have h2 := congrArg (List.map fun u : UInt8 => (u.toNat : Int)) h
    have e : (Lib.bytesOf l).map (fun u : UInt8 => (u.toNat : Int)) = l := by
      unfold Lib.bytesOf
      rw [List.map_map]
      conv => rhs; rw [← List.map_id l]
      refine List.map_congr_left fun x hx => ?_
      have := hb x hx
      simp
      omega
    rw [e] at h2
    exact h2
  · rintro rfl
    decide +kernel
theorem hb_len5 (v : Int) : (encHead v).length = 5 := encHead_len v
theorem hb_take4 (v ut sd le ti ty ch : Int) : (hbytes v ut sd le ti ty ch).take 4 = [84, 90, 105, 102] := by
  unfold hbytes encHead
  split <;> rfl
theorem hb_rd4 (v ut sd le ti ty ch : Int) : rd (hbytes v ut sd le ti ty ch) 4 = if v > 1 then (48 + v) % 256 else 0 := by
  unfold hbytes encHead
  split <;> rfl
theorem hb_drop (v ut sd le ti ty ch : Int) : (hbytes v ut sd le ti ty ch).drop 20 = six4 ut sd le ti ty ch := by
  unfold hbytes
  rw [← List.append_assoc]
  exact List.drop_left' (by simp [encHead_len])
theorem six4_len (ut sd le ti ty ch : Int) : (six4 ut sd le ti ty ch).length = 24 := by simp [six4, be_len]
theorem six4_bytes (ut sd le ti ty ch : Int) : Bytes (six4 ut sd le ti ty ch) := by
  unfold six4
  exact (be_bytes 4 _).append ((be_bytes 4 _).append ((be_bytes 4 _).append ((be_bytes 4 _).append ((be_bytes 4 _).append (be_bytes 4 _)))))
theorem hb_bytes (v ut sd le ti ty ch : Int) : Bytes (hbytes v ut sd le ti ty ch) := by
  have h1 : Bytes (encHead v) := by
    intro x hx
    unfold encHead at hx
    split at hx <;> simp at hx <;> omega
  have h2 : Bytes (List.replicate 15 0) := by
    intro x hx
    have := List.eq_of_mem_replicate hx
    omega
  unfold hbytes
  exact h1.append (h2.append (six4_bytes _ _ _ _ _ _))
theorem be4_val (n : Int) (h0 : 0 ≤ n) (h1 : n ≤ 5000) : bval (be 4 (IntKind.u64.wrap n)) = n := by
  have e : (256 : Int) ^ 4 = 4294967296 := by decide +kernel
  rw [bval_be, IntKind.wrap_u64, e]
  omega
theorem num4_of (x : List Int) (S : List Int) (h6 : (x.drop 20).take 24 = S) (i : Nat) (hi : i < 6) : num4 x i = bval ((S.take (4 * i + 4)).drop (4 * i)) := by
  unfold num4
  congr 1
  rw [← h6, List.take_take, Nat.min_eq_left (by omega), ← List.drop_drop, List.drop_take]
  congr 2
  omega
theorem num4_six (x : List Int) (ut sd le ti ty ch : Int) (h6 : (x.drop 20).take 24 = six4 ut sd le ti ty ch) (h : (0 ≤ ut ∧ ut ≤ 5000) ∧ (0 ≤ sd ∧ sd ≤ 5000) ∧ (0 ≤ le ∧ le ≤ 5000) ∧ (0 ≤ ti ∧ ti ≤ 5000) ∧ (0 ≤ ty ∧ ty ≤ 5000) ∧ (0 ≤ ch ∧ ch ≤ 5000)) :
    num4 x 0 = ut ∧ num4 x 1 = sd ∧ num4 x 2 = le ∧ num4 x 3 = ti ∧ num4 x 4 = ty ∧ num4 x 5 = ch := by
  obtain ⟨h1, h2, h3, h4, h5, h6'⟩ := h
  have key : ∀ (i : Nat) (A B C : List Int) (hA : A.length = 4 * i) (hB : B.length = 4), (((A ++ (B ++ C)).take (4 * i + 4)).drop (4 * i)) = B := by
    intro i A B C hA hB
    rw [List.take_append, List.drop_append, hA]
    have e1 : (A.take (4 * i + 4)).drop (4 * i) = [] := by rw [List.drop_eq_nil_iff]; simp; omega
    have e2 : 4 * i + 4 - 4 * i = 4 := by omega
    have e3 : 4 * i - (A.take (4 * i + 4)).length = 0 := by simp; omega
    rw [e1, e2, e3, List.drop_zero, List.nil_append, List.take_left' hB]
  refine ⟨?_, ?_, ?_, ?_, ?_, ?_⟩
  · rw [num4_of x _ h6 0 (by omega)]
    unfold six4
    exact (congrArg bval (key 0 [] _ _ rfl (be_len _ _))).trans (be4_val _ h1.1 h1.2)
  · rw [num4_of x _ h6 1 (by omega)]
    unfold six4
    exact (congrArg bval (key 1 (be 4 _) _ _ (be_len _ _) (be_len _ _))).trans (be4_val _ h2.1 h2.2)
  · rw [num4_of x _ h6 2 (by omega)]
    unfold six4
    rw [← List.append_assoc]
    exact (congrArg bval (key 2 (be 4 _ ++ be 4 _) _ _ (by simp [be_len]) (be_len _ _))).trans (be4_val _ h3.1 h3.2)
  · rw [num4_of x _ h6 3 (by omega)]
    unfold six4
    rw [← List.append_assoc, ← List.append_assoc]
    exact (congrArg bval (key 3 (be 4 _ ++ be 4 _ ++ be 4 _) _ _ (by simp [be_len]) (be_len _ _))).trans (be4_val _ h4.1 h4.2)
  · rw [num4_of x _ h6 4 (by omega)]
    unfold six4
    rw [← List.append_assoc, ← List.append_assoc, ← List.append_assoc]
    exact (congrArg bval (key 4 (be 4 _ ++ be 4 _ ++ be 4 _ ++ be 4 _) _ _ (by simp [be_len]) (be_len _ _))).trans (be4_val _ h5.1 h5.2)
  · rw [num4_of x _ h6 5 (by omega)]
    unfold six4
    rw [← List.append_assoc, ← List.append_assoc, ← List.append_assoc, ← List.append_assoc]
    have := key 5 (be 4 (IntKind.u64.wrap ut) ++ be 4 (IntKind.u64.wrap sd) ++ be 4 (IntKind.u64.wrap le) ++ be 4 (IntKind.u64.wrap ti) ++ be 4 (IntKind.u64.wrap ty)) (be 4 (IntKind.u64.wrap ch)) [] (by simp [be_len]) (be_len _ _)
    rw [List.append_nil] at this
    exact (congrArg bval this).trans (be4_val _ h6'.1 h6'.2)
theorem right_bds {v ut sd le ti ty ch : Int} (h : rightP v ut sd le ti ty ch) : (0 ≤ ut ∧ ut ≤ 5000) ∧ (0 ≤ sd ∧ sd ≤ 5000) ∧ (0 ≤ le ∧ le ≤ 5000) ∧ (0 ≤ ti ∧ ti ≤ 5000) ∧ (0 ≤ ty ∧ ty ≤ 5000) ∧ (0 ≤ ch ∧ ch ≤ 5000) := by
  obtain ⟨h1, h2, h3, h4, h5, h6, h7⟩ := h
  omega
/-- bytes that begin as a header's, with another version byte -/
theorem dec_of (x : List Int) (v ut sd le ti ty ch c : Int) (h : rightP v ut sd le ti ty ch) (hl : 44 ≤ x.length) (h4 : x.take 4 = [84, 90, 105, 102]) (hc : rd x 4 = c) (h6 : (x.drop 20).take 24 = six4 ut sd le ti ty ch) :
    dec x = if c = 0 ∨ 50 ≤ c ∧ c ≤ 52 then (verOf c, ut, sd, le, ti, ty, ch, 0) else (0, 0, 0, 0, 0, 0, 0, 4) := by
  obtain ⟨n0, n1, n2, n3, n4, n5⟩ := num4_six x ut sd le ti ty ch h6 (right_bds h)
  have hm : magicP x := by
    unfold magicP
    rw [h4]
    decide +kernel
  unfold dec
  rw [if_neg (by omega)]
  by_cases hv : c = 0 ∨ 50 ≤ c ∧ c ≤ 52
  · rw [if_pos hv, if_pos, decOK, n0, n1, n2, n3, n4, n5, hc]
    unfold decP
    rw [hc, n0, n1, n2, n3, n4, n5]
    refine ⟨hm, hv, ?_⟩
    obtain ⟨h1, hr⟩ := h
    refine ⟨?_, hr⟩
    unfold verOf
    split <;> omega
  · rw [if_neg hv, if_neg]
    rintro ⟨_, h2, _⟩
    rw [hc] at h2
    exact hv h2
theorem ver_of (v : Int) (h1 : 1 ≤ v) (h4 : v ≤ 4) : verOf (if v > 1 then (48 + v) % 256 else 0) = v := by
  unfold verOf
  by_cases hv : v > 1
  · rw [if_pos hv, if_neg (by omega)]
    omega
  · rw [if_neg hv, if_pos rfl]
    omega
/-- bytes that begin as a header's -/
theorem dec_same (x : List Int) (v ut sd le ti ty ch : Int) (h : rightP v ut sd le ti ty ch) (hl : 44 ≤ x.length) (h4 : x.take 4 = [84, 90, 105, 102]) (hc : rd x 4 = if v > 1 then (48 + v) % 256 else 0) (h6 : (x.drop 20).take 24 = six4 ut sd le ti ty ch) :
    dec x = (v, ut, sd, le, ti, ty, ch, 0) := by
  rw [dec_of x v ut sd le ti ty ch _ h hl h4 hc h6, if_pos, ver_of v h.1.1 h.1.2]
  have h1 := h.1
  split <;> omega
theorem dec_short (x : List Int) (h : x.length < 44) : dec x = (0, 0, 0, 0, 0, 0, 0, 5) := by
  unfold dec
  rw [if_pos h]
theorem dec_bad (x : List Int) (hb : Bytes x) (hl : 44 ≤ x.length) (h4 : x.take 4 ≠ [84, 90, 105, 102]) : dec x = (0, 0, 0, 0, 0, 0, 0, 4) := by
  unfold dec
  rw [if_neg (by omega), if_neg]
  rintro ⟨h, _⟩
  exact h4 ((magic_iff _ (hb.take 4)).1 h)
theorem xor_val (a b : Int) (ha : 0 ≤ a ∧ a < 256) (hb : 0 ≤ b ∧ b < 256) : (0 ≤ Go.bits .xor .u8 a b ∧ Go.bits .xor .u8 a b < 256) ∧ (Go.bits .xor .u8 a b = a ↔ b = 0) := by
  have e : Go.bits .xor .u8 a b = (((BitVec.ofInt 8 a ^^^ BitVec.ofInt 8 b).toNat : Nat) : Int) := by
    show IntKind.u8.wrap _ = _
    have := (BitVec.ofInt 8 a ^^^ BitVec.ofInt 8 b).isLt
    show (((BitVec.ofInt 8 a ^^^ BitVec.ofInt 8 b).toNat : Nat) : Int) % 256 = _
    omega
  have hlt := (BitVec.ofInt 8 a ^^^ BitVec.ofInt 8 b).isLt
  rw [e]
  refine ⟨by omega, ?_⟩
  have na : ((BitVec.ofInt 8 a).toNat : Int) = a := by rw [BitVec.toNat_ofInt]; omega
  have nb : ((BitVec.ofInt 8 b).toNat : Int) = b := by rw [BitVec.toNat_ofInt]; omega
  constructor
  · intro h
    have h1 : BitVec.ofInt 8 a ^^^ BitVec.ofInt 8 b = BitVec.ofInt 8 a := BitVec.eq_of_toNat_eq (by omega)
    have h2 : BitVec.ofInt 8 b = 0#8 := by
      have := congrArg (BitVec.ofInt 8 a ^^^ ·) h1
      simpa [← BitVec.xor_assoc] using this
    rw [h2] at nb
    simpa using nb.symm
  · rintro rfl
    have h2 : BitVec.ofInt 8 0 = 0#8 := rfl
    rw [h2, BitVec.xor_zero, na]
theorem and3 (n : Int) : Go.bits .and .i64 n 3 = n % 4 := by
  have h127 : (BitVec.ofInt 64 3).toNat = 2 ^ 2 - 1 := by decide
  have key : (BitVec.ofInt 64 n &&& BitVec.ofInt 64 3).toNat = (n % ((2 ^ 64 : Nat) : Int)).toNat % 2 ^ 2 := by
    rw [BitVec.toNat_and, BitVec.toNat_ofInt, h127, Nat.and_two_pow_sub_one_eq_mod]
  show IntKind.i64.wrap ((BitVec.ofInt 64 n &&& BitVec.ofInt 64 3).toNat : Nat) = n % 4
  rw [key, IntKind.wrap_i64]
  omega
end Go.Proofs.Ytgaibighfmcgoaa.Hand
