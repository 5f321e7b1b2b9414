/- What the header's functions come to, in closed form. -/
import Derived.Test.YtgaibighfmcgoaaShown
import Derived.Test.YtgaibighfmcgoaaPHdrAx3
import Derived.Test.YtgaibighfmcgoaaNum
namespace Go.Proofs.Ytgaibighfmcgoaa.Hand
open Go.RowKit Go.Proofs.YtgaibighfmcgoaaW.PrintWords Go.Proofs.YtgaibighfmcgoaaW.PrintLast Go.Proofs.YtgaibighfmcgoaaW.PrintMore Go.Proofs.Ytgaibighfmcgoaa.PHdrA
set_option linter.unusedVariables false
set_option linter.unusedSimpArgs false
theorem w64 {n : Int} (h1 : -9223372036854775808 ≤ n) (h2 : n ≤ 9223372036854775807) : wrap64 n = n := by
  unfold wrap64
  omega
/-- a header that is right -/
def rightP (v ut sd le ti ty ch : Int) : Prop := (1 ≤ v ∧ v ≤ 4) ∧ (1 ≤ ty ∧ ty ≤ 256) ∧ (1 ≤ ch ∧ ch ≤ 256) ∧ (0 ≤ ti ∧ ti ≤ 5000) ∧ (0 ≤ le ∧ le ≤ 5000) ∧ (ut = 0 ∨ ut = ty) ∧ (sd = 0 ∨ sd = ty)
instance (v ut sd le ti ty ch : Int) : Decidable (rightP v ut sd le ti ty ch) := by unfold rightP; infer_instance
theorem within_f (n a b : Int) : header_within.f n a b = some (decide (a ≤ n ∧ n ≤ b)) := by
  unfold header_within.f
  split
  · rename_i h
    have h' : a ≤ n := h
    congr 1
    simp [h']
  · rw [show decide (a ≤ n ∧ n ≤ b) = false from decide_eq_false (by omega)]
theorem right_f (v ut sd le ti ty ch : Int) : header_Right.f v ut sd le ti ty ch = some (decide (rightP v ut sd le ti ty ch)) := by
  unfold header_Right.f
  simp only [within_f, Option.bind_some, decide_eq_true_eq]
  by_cases h : rightP v ut sd le ti ty ch
  · rw [decide_eq_true h]
    obtain ⟨h1, h2, h3, h4, h5, h6, h7⟩ := h
    rw [if_pos h1, if_pos h2, if_pos h3, if_pos h4, if_pos h5]
    rcases h6 with h6 | h6 <;> rcases h7 with h7 | h7 <;> simp [h6, h7]
  · rw [decide_eq_false h]
    by_cases h1 : 1 ≤ v ∧ v ≤ 4
    · rw [if_pos h1]
      by_cases h2 : 1 ≤ ty ∧ ty ≤ 256
      · rw [if_pos h2]
        by_cases h3 : 1 ≤ ch ∧ ch ≤ 256
        · rw [if_pos h3]
          by_cases h4 : 0 ≤ ti ∧ ti ≤ 5000
          · rw [if_pos h4]
            by_cases h5 : 0 ≤ le ∧ le ≤ 5000
            · rw [if_pos h5]
              have h8 : ¬ ((ut = 0 ∨ ut = ty) ∧ (sd = 0 ∨ sd = ty)) := fun h9 => h ⟨h1, h2, h3, h4, h5, h9.1, h9.2⟩
              by_cases a1 : ut = 0 <;> by_cases a2 : ut = ty <;> by_cases a3 : sd = 0 <;> by_cases a4 : sd = ty <;> simp_all
            · rw [if_neg h5]
          · rw [if_neg h4]
        · rw [if_neg h3]
      · rw [if_neg h2]
    · rw [if_neg h1]
theorem rright_j (k : Nat) (b : Bool) (v ut sd le ti ty ch : Int) (hb : b = false → (1 ≤ v ∧ v ≤ 4) ∧ (1 ≤ ty ∧ ty ≤ 256) ∧ (1 ≤ ch ∧ ch ≤ 256)) (hb' : b = true → ¬ ((1 ≤ v ∧ v ≤ 4) ∧ (1 ≤ ty ∧ ty ≤ 256) ∧ (1 ≤ ch ∧ ch ≤ 256))) :
    longcaseref05_Right.j0 (k + 1) b v ut sd le ti ty ch = some (decide (rightP v ut sd le ti ty ch)) := by
  simp only [longcaseref05_Right.j0]
  by_cases h : rightP v ut sd le ti ty ch
  · rw [decide_eq_true h]
    obtain ⟨h1, h2, h3, h4, h5, h6, h7⟩ := h
    rw [if_neg (fun hc => hb' hc ⟨h1, h2, h3⟩), if_neg (by omega), if_neg (by omega), if_neg (by omega), if_neg (by omega)]
    rcases h6 with h6 | h6 <;> rcases h7 with h7 | h7 <;> simp [h6, h7]
  · rw [decide_eq_false h]
    cases b with
    | true => rw [if_pos rfl]
    | false =>
      obtain ⟨h1, h2, h3⟩ := hb rfl
      rw [if_neg (by simp)]
      split
      · rfl
      split
      · rfl
      split
      · rfl
      split
      · rfl
      have h8 : ¬ ((ut = 0 ∨ ut = ty) ∧ (sd = 0 ∨ sd = ty)) := fun h9 => h ⟨h1, h2, h3, by omega, by omega, h9.1, h9.2⟩
      by_cases a1 : ut = 0 <;> by_cases a2 : ut = ty <;> by_cases a3 : sd = 0 <;> by_cases a4 : sd = ty <;> simp_all
theorem rright_f (k : Nat) (v ut sd le ti ty ch : Int) : longcaseref05_Right.f (k + 1) v ut sd le ti ty ch = some (decide (rightP v ut sd le ti ty ch)) := by
  unfold longcaseref05_Right.f
  split
  · exact rright_j k _ _ _ _ _ _ _ _ (fun h => by cases h) (fun _ => by omega)
  split
  · exact rright_j k _ _ _ _ _ _ _ _ (fun h => by cases h) (fun _ => by omega)
  split
  · exact rright_j k _ _ _ _ _ _ _ _ (fun h => by cases h) (fun _ => by omega)
  split
  · exact rright_j k _ _ _ _ _ _ _ _ (fun h => by cases h) (fun _ => by omega)
  split
  · exact rright_j k _ _ _ _ _ _ _ _ (fun h => by cases h) (fun _ => by omega)
  · exact rright_j k _ _ _ _ _ _ _ _ (fun h => by have := of_decide_eq_false h; omega) (fun h => by have := of_decide_eq_true h; omega)
theorem shr_pow (n : Int) (j : Nat) (hj : j ≤ 7) : shr .u64 n (8 * (j : Int)) = n / 256 ^ j := by
  have hc : j = 0 ∨ j = 1 ∨ j = 2 ∨ j = 3 ∨ j = 4 ∨ j = 5 ∨ j = 6 ∨ j = 7 := by omega
  rcases hc with h | h | h | h | h | h | h | h <;> subst h <;> rfl
theorem put_l (n : Int) (m : Nat) : ∀ (k : Nat) (xs : List Int), m ≤ 8 → m < k → xs.length + m < 140737488355328 → octets_Put.l0 k n xs ((m : Int) - 1) = some (xs ++ be m n) := by
  induction m with
  | zero =>
    intro k xs _ hk _
    obtain ⟨k, rfl⟩ : ∃ j, k = j + 1 := ⟨k - 1, by omega⟩
    simp only [octets_Put.l0]
    rw [if_neg (by omega)]
    simp [be]
  | succ m ih =>
    intro k xs hm hk hl
    obtain ⟨k, rfl⟩ : ∃ j, k = j + 1 := ⟨k - 1, by omega⟩
    have e : ((m + 1 : Nat) : Int) - 1 = m := by omega
    rw [e]
    simp only [octets_Put.l0]
    rw [if_pos (by omega), w64 (n := 8 * (m : Int)) (by omega) (by omega), if_pos (by omega), if_pos (by omega), w64 (n := (m : Int) - 1) (by omega) (by omega), shr_pow n m (by omega),
      ih k _ (by omega) (by omega) (by simp; omega)]
    simp [be]
theorem put_f (k : Nat) (hk : 10 ≤ k) (l0 : List Int) (hl : l0.length < 140737488350000) (n : Int) : octets_Put.f k l0 4 n = some (l0 ++ be 4 n) := by
  unfold octets_Put.f slices_Clone_byte_byte.f
  rw [if_pos (by omega)]
  simp only [Option.bind_some]
  have e : mn (mx (4 : Int) 0) 8 - 1 = ((4 : Nat) : Int) - 1 := by decide
  rw [e, put_l n 4 k l0 (by omega) (by omega) (by omega)]
theorem rput_l (n : Int) (m : Nat) : ∀ (k : Nat) (xs : List Int), m ≤ 8 → m < k → xs.length + m < 140737488355328 → longcaseref04_Put.l0 k n xs (m : Int) = some (xs ++ be m n) := by
  induction m with
  | zero =>
    intro k xs _ hk _
    obtain ⟨k, rfl⟩ : ∃ j, k = j + 1 := ⟨k - 1, by omega⟩
    simp only [longcaseref04_Put.l0]
    rw [if_neg (by omega)]
    simp [be]
  | succ m ih =>
    intro k xs hm hk hl
    obtain ⟨k, rfl⟩ : ∃ j, k = j + 1 := ⟨k - 1, by omega⟩
    simp only [longcaseref04_Put.l0]
    have e1 : wrap64 (wrap64 (8 * ((m + 1 : Nat) : Int)) - 8) = 8 * (m : Int) := by rw [w64 (n := 8 * ((m + 1 : Nat) : Int)) (by omega) (by omega), w64 (by omega) (by omega)]; omega
    have e2 : IntKind.u64.wrap (8 * (m : Int)) = 8 * (m : Int) := by rw [IntKind.wrap_u64]; omega
    have e3 : wrap64 (((m + 1 : Nat) : Int) - 1) = (m : Int) := by rw [w64 (by omega) (by omega)]; omega
    rw [if_pos (by omega), e1, e2, e3, if_pos (by omega), if_pos (by omega), shr_pow n m (by omega), ih k _ (by omega) (by omega) (by simp; omega)]
    simp [be]
theorem rput_f (k : Nat) (hk : 10 ≤ k) (l0 : List Int) (hl : l0.length < 140737488350000) (n : Int) : longcaseref04_Put.f k l0 4 n = some (l0 ++ be 4 n) := by
  unfold longcaseref04_Put.f
  rw [Option.bind_some, if_pos (by simp; omega), List.nil_append]
  have e : mn (4 : Int) 8 = ((4 : Nat) : Int) := by decide
  rw [e, rput_l n 4 k l0 (by omega) (by omega) (by omega)]
theorem putN_f (k : Nat) (hk : 10 ≤ k) : ∀ (hs b : List Int), b.length + 4 * hs.length < 140737488350000 → putN k hs b = some (b ++ hs.flatMap fun h => be 4 (IntKind.u64.wrap h))
  | [], b, _ => by simp [putN]
  | h :: t, b, hl => by
    simp only [List.length_cons] at hl
    simp only [putN]
    rw [put_f k hk b (by omega), Option.bind_some, putN_f k hk t _ (by simp [be_len]; omega)]
    simp
/-- the six numbers' bytes -/
def six4 (ut sd le ti ty ch : Int) : List Int := be 4 (IntKind.u64.wrap ut) ++ (be 4 (IntKind.u64.wrap sd) ++ (be 4 (IntKind.u64.wrap le) ++ (be 4 (IntKind.u64.wrap ti) ++ (be 4 (IntKind.u64.wrap ty) ++ be 4 (IntKind.u64.wrap ch)))))
def hbytes (v ut sd le ti ty ch : Int) : List Int := encHead v ++ (List.replicate 15 0 ++ six4 ut sd le ti ty ch)
theorem hbytes_len (v ut sd le ti ty ch : Int) : (hbytes v ut sd le ti ty ch).length = 44 := by
  simp [hbytes, six4, encHead_len, be_len]
theorem encode_f (k : Nat) (hk : 10 ≤ k) (v ut sd le ti ty ch : Int) (h : rightP v ut sd le ti ty ch) : header_Encode.f k v ut sd le ti ty ch = some (hbytes v ut sd le ti ty ch, 0) := by
  unfold header_Encode.f
  rw [right_f, decide_eq_true h, Option.bind_some, if_pos rfl, putN_f k hk _ _ (by simp [encHead_len]), Option.bind_some]
  simp [hbytes, six4]
theorem encode_no (k : Nat) (v ut sd le ti ty ch : Int) (h : ¬ rightP v ut sd le ti ty ch) : header_Encode.f k v ut sd le ti ty ch = some ([], 1) := by
  unfold header_Encode.f
  rw [right_f, decide_eq_false h, Option.bind_some, if_neg (by decide)]
theorem rd_at (xs : List Int) (i : Nat) : rd xs (i : Int) = xs.getD i 0 := by
  unfold rd
  simp
theorem renc_l1 (hs : List Int) (hlen : hs.length = 6) : ∀ (m k i : Nat) (b : List Int), m + i = 6 → 10 + m < k → b.length + 4 * m < 140737488350000 → longcaseref05_Encode.l1 k b hs (i : Int) = some (b ++ (hs.drop i).flatMap fun h => be 4 (IntKind.u64.wrap h))
  | 0, k, i, b, hm, hk, _ => by
    obtain ⟨k, rfl⟩ : ∃ j, k = j + 1 := ⟨k - 1, by omega⟩
    obtain rfl : i = 6 := by omega
    simp only [longcaseref05_Encode.l1]
    rw [if_neg (by omega), List.drop_of_length_le (by omega)]
    simp
  | m + 1, k, i, b, hm, hk, h2 => by
    obtain ⟨k, rfl⟩ : ∃ j, k = j + 1 := ⟨k - 1, by omega⟩
    simp only [longcaseref05_Encode.l1]
    rw [if_pos (by omega), if_pos (by omega), if_pos (by omega), rput_f k (by omega) b (by omega), Option.bind_some, w64 (by omega) (by omega)]
    have e : (i : Int) + 1 = ((i + 1 : Nat) : Int) := by omega
    rw [e]
    rw [renc_l1 hs hlen m k (i + 1) _ (by omega) (by omega) (by simp [be_len]; omega)]
    rw [List.drop_eq_getElem_cons (show i < hs.length by omega), List.flatMap_cons, rd_at, List.getD_eq_getElem?_getD, List.getElem?_eq_getElem (show i < hs.length by omega)]
    simp
theorem renc_l0 (v ut sd le ti ty ch : Int) : ∀ (m k i : Nat) (b : List Int), m + i = 15 → 40 + m < k → b.length + m < 1000 → longcaseref05_Encode.l0 k b (i : Int) v ut sd le ti ty ch = some (b ++ (List.replicate m 0 ++ six4 ut sd le ti ty ch))
  | 0, k, i, b, hm, hk, hl => by
    obtain ⟨k, rfl⟩ : ∃ j, k = j + 1 := ⟨k - 1, by omega⟩
    obtain rfl : i = 15 := by omega
    simp only [longcaseref05_Encode.l0]
    rw [if_neg (by omega)]
    have h := renc_l1 [ut, sd, le, ti, ty, ch] rfl 6 k 0 b (by omega) (by omega) (by omega)
    refine Eq.trans h ?_
    simp [six4]
  | m + 1, k, i, b, hm, hk, hl => by
    obtain ⟨k, rfl⟩ : ∃ j, k = j + 1 := ⟨k - 1, by omega⟩
    simp only [longcaseref05_Encode.l0]
    rw [if_pos (by omega), if_pos (by omega), w64 (by omega) (by omega)]
    have e : (i : Int) + 1 = ((i + 1 : Nat) : Int) := by omega
    rw [e, renc_l0 v ut sd le ti ty ch m k (i + 1) _ (by omega) (by omega) (by simp; omega)]
    simp [List.replicate_succ]
theorem rencode_f (k : Nat) (hk : 100 ≤ k) (v ut sd le ti ty ch : Int) (h1 : 1 ≤ v) (h4 : v ≤ 4) : longcaseref05_Encode.f k v ut sd le ti ty ch = some (hbytes v ut sd le ti ty ch) := by
  unfold longcaseref05_Encode.f
  rw [Option.bind_some]
  obtain ⟨k, rfl⟩ : ∃ j, k = j + 1 := ⟨k - 1, by omega⟩
  have h0 := fun b (hb : b.length = 5) => renc_l0 v ut sd le ti ty ch 15 k 0 b (by omega) (by omega) (by omega)
  by_cases hv : v = 1
  · rw [if_pos hv, if_pos (by decide)]
    simp only [longcaseref05_Encode.j0]
    refine Eq.trans (h0 _ rfl) ?_
    have e : encHead v = [84, 90, 105, 102, 0] := by unfold encHead; rw [if_neg (by omega)]
    simp [hbytes, e]
  · rw [if_neg hv, if_pos (by decide)]
    simp only [longcaseref05_Encode.j0]
    refine Eq.trans (h0 _ rfl) ?_
    have e : encHead v = [84, 90, 105, 102, (48 + v) % 256] := by unfold encHead; rw [if_pos (by omega)]
    rw [w64 (by omega) (by omega)]
    simp [hbytes, e]
end Go.Proofs.Ytgaibighfmcgoaa.Hand
