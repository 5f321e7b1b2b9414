/- What the claim needs of its texts, one behind the other (laid by a program of the session's). -/
import Derived.Test.YthobnoknbdljgaaZBack6
import Derived.Lib.SmallJoins
import Derived.Deep.Slices
import Derived.Deep.Strs
import Derived.Deep.Fields
import Derived.ChangeSame
section
namespace Go.Proofs.Ythobnoknbdljgaa
open Go.RowKit Hand PB0 Go.Proofs.YthobnoknbdljgaaW.PrintWords Oct
structure NmInv (st : NmS) (l : List ByteArray) : Prop where
 place : ∀ s p, st.2.1 s = some p → ∃ pre post : List UInt8, st.1 = pre ++ s.data.toList ++ 0 :: post ∧ pre.length = p
 at_ : ∀ i (h : i < l.length), ∃ p, st.2.1 l[i] = some p ∧ st.2.2[i]? = some ((p : Int) % 256)
 len : st.2.2.length = l.length
theorem nm_inv (l : List ByteArray) : NmInv (nmSt l) l := by
 induction l using rev_ind with
 | h0 => exact ⟨fun s p h => (by cases h), fun i h => absurd h (Nat.not_lt_zero i), rfl⟩
 | hs l s ih =>
  rw [nmSt_snoc]
  have fin : ∀ (st' : NmS) (p : Nat), st'.2.1 s = some p → (∀ t q, (nmSt l).2.1 t = some q → st'.2.1 t = some q) → st'.2.2 = (nmSt l).2.2 ++ [((p : Nat) : Int) % 256] →
    (∀ s p, st'.2.1 s = some p → ∃ pre post : List UInt8, st'.1 = pre ++ s.data.toList ++ 0 :: post ∧ pre.length = p) → NmInv st' (l ++ [s]) := by
   intro st' p h1 h2 h3 h4
   refine ⟨h4, ?_, by rw [h3, List.length_append, List.length_append, ih.len]; rfl⟩
   intro i hi
   rw [List.length_append] at hi
   by_cases hlt : i < l.length
   ·
    obtain ⟨q, hq, hat⟩ := ih.at_ i hlt
    refine ⟨q, ?_, ?_⟩
    ·
     rw [List.getElem_append_left hlt]
     exact h2 _ _ hq
    ·
     rw [h3, List.getElem?_append_left (by rw [ih.len]; exact hlt)]
     exact hat
   ·
    have e : i = l.length := by simp at hi; omega
    subst e
    refine ⟨p, ?_, ?_⟩
    ·
     rw [List.getElem_append_right (Nat.le_refl _)]
     simpa using h1
    ·
     rw [h3, List.getElem?_append_right (by rw [ih.len]; exact Nat.le_refl _), ih.len]
     simp
  unfold nmStep
  split
  ·
   rename_i p hp
   exact fin _ p hp (fun t q h => h) rfl ih.place
  ·
   rename_i hn
   refine fin _ (nmSt l).1.length (by dsimp only; rw [if_pos rfl]) ?_ rfl ?_
   ·
    intro t q h
    dsimp only
    rw [if_neg (fun e => by rw [e, hn] at h; cases h)]
    exact h
   ·
    intro t q h
    dsimp only at h ⊢
    by_cases e : t = s
    ·
     subst e
     rw [if_pos rfl] at h
     injection h with h
     subst h
     exact ⟨(nmSt l).1, [], by simp, rfl⟩
    ·
     rw [if_neg e] at h
     obtain ⟨pre, post, h1, h2⟩ := ih.place t q h
     exact ⟨pre, post ++ s.data.toList ++ [0], by rw [h1]; simp, h2⟩
theorem idx_none (l : List UInt8) (h : Lib.indexByte l 0 < 0) : ∀ x ∈ l, x ≠ 0 := by
 induction l with
 | nil => intro x hx; cases hx
 | cons b l ih =>
  intro x hx
  rw [Lib.indexByte] at h
  by_cases hb : (b == 0) = true
  ·
   rw [if_pos hb] at h
   exact absurd h (by decide)
  ·
   rw [if_neg hb] at h
   by_cases hc : (Lib.indexByte l 0 == -1) = true
   ·
    rcases List.mem_cons.1 hx with rfl | hx
    ·
     intro e; rw [e] at hb; exact hb rfl
    ·
     exact ih (by rw [eq_of_beq hc]; decide) x hx
   ·
    rw [if_neg hc] at h
    rcases List.mem_cons.1 hx with rfl | hx
    ·
     intro e; rw [e] at hb; exact hb rfl
    ·
     exact ih (by omega) x hx
theorem idx_at (l post : List UInt8) (h : ∀ x ∈ l, x ≠ 0) : Lib.indexByte (l ++ 0 :: post) 0 = l.length := by
 induction l with
 | nil => rfl
 | cons b l ih =>
  rw [List.cons_append, Lib.indexByte, if_neg (by
   intro e
   exact h b (List.mem_cons_self ..) (eq_of_beq e)), ih (fun x hx => h x (List.mem_cons_of_mem _ hx))]
  rw [if_neg (by intro e; have := eq_of_beq e; omega), List.length_cons]
  omega
theorem bytes_back (l : List UInt8) : Lib.bytesOf (l.map fun b => (b.toNat : Int)) = l := by
 unfold Lib.bytesOf
 rw [List.map_map]
 conv => rhs; rw [← List.map_id l]
 apply List.map_congr_left
 intro b _
 simp
theorem name_at (all pre post : List UInt8) (s : ByteArray) (p : Nat) (h1 : all = pre ++ s.data.toList ++ 0 :: post) (h2 : pre.length = p) (hs : Lib.indexByte s.data.toList 0 < 0) :
  nameI (bytesOf ⟨all.toArray⟩) (p : Int) = (s, true) := by
 have hz := idx_none _ hs
 have hb : bytesOf ⟨all.toArray⟩ = all.map fun b => (b.toNat : Int) := rfl
 have hl : p ≤ (bytesOf ⟨all.toArray⟩).length := by rw [hb, List.length_map, h1, List.length_append, List.length_append]; omega
 have hd : (bytesOf ⟨all.toArray⟩).drop p = (s.data.toList ++ 0 :: post).map fun b => (b.toNat : Int) := by
  rw [hb, ← List.map_drop, h1, List.append_assoc, List.drop_append_of_le_length (by omega), List.drop_of_length_le (by omega), List.nil_append]
 unfold nameI
 rw [if_neg (by omega), if_neg (by omega), Int.toNat_natCast, hd, bytes_back, idx_at _ _ hz, if_neg (by omega), Int.toNat_natCast]
 have ht : List.take s.data.toList.length (List.map (fun b : UInt8 => (b.toNat : Int)) (s.data.toList ++ 0 :: post)) = s.data.toList.map fun b => (b.toNat : Int) := by
  rw [← List.map_take, List.take_append_of_le_length (Nat.le_refl _), List.take_length]
 rw [ht]
 refine Prod.ext ?_ rfl
 dsimp only
 have e := Lib.strOfNums_toList (s.data.toList.map fun b => (b.toNat : Int))
 rw [bytes_back, ByteArray.toList_eq] at e
 obtain ⟨⟨s⟩⟩ := s
 generalize strOfNums _ = y at e ⊢
 obtain ⟨⟨y⟩⟩ := y
 simp only at e
 rw [e]
def fit (m : Nat) (n : Int) : Prop := -(256 ^ m) ≤ 2 * n ∧ 2 * n < 256 ^ m
theorem fit4 {n : Int} : fit 4 n ↔ -2147483648 ≤ n ∧ n ≤ 2147483647 := by unfold fit; rw [q4]; omega
theorem fit8 {n : Int} : fit 8 n ↔ -9223372036854775808 ≤ n ∧ n ≤ 9223372036854775807 := by unfold fit; rw [q8]; omega
theorem num_back (m : Nat) (hm : m = 4 ∨ m = 8) (n : Int) (h : fit m n) (rest : List Int) : numU m (be m (u64w n) ++ rest) = n := by
 unfold numU u64w
 rw [List.take_append_of_le_length (by rw [be_len]; exact Nat.le_refl _), List.take_of_length_le (by rw [be_len]; exact Nat.le_refl _), uval_bval _ (be_bytes m _) (by rw [be_len]; omega), bval_be]
 have hp := pow_pos' m
 have h0 := Int.emod_nonneg (IntKind.u64.wrap n) (b := 256 ^ m) (by omega)
 have h1 := Int.emod_lt_of_pos (IntKind.u64.wrap n) (b := 256 ^ m) hp
 rw [sgn_val m (by omega) (by omega) _ h0 h1, IntKind.wrap_u64]
 rcases hm with rfl | rfl
 ·
  rw [fit4] at h
  rw [q4]
  split <;> omega
 ·
  rw [fit8] at h
  rw [q8]
  split <;> omega
end Go.Proofs.Ythobnoknbdljgaa
end
section
namespace Go.Proofs.Ythobnoknbdljgaa
open Go.RowKit Hand PB0 Go.Proofs.YthobnoknbdljgaaW.PrintWords Oct
theorem drop_pre (X Y : List Int) (p q : Nat) (h : X.length = p) : (X ++ Y).drop (p + q) = Y.drop q := by
 subst h
 rw [← List.drop_drop, List.drop_append_of_le_length (Nat.le_refl _), List.drop_of_length_le (Nat.le_refl _), List.nil_append]
theorem flat_drop {α : Type} (f : α → List Int) (c : Nat) (l : List α) (h : ∀ x ∈ l, (f x).length = c) (i : Nat) (hi : i ≤ l.length) : (l.flatMap f).drop (c * i) = (l.drop i).flatMap f := by
 induction i generalizing l with
 | zero => simp
 | succ i ih =>
  cases l with
  | nil => simp at hi
  | cons x l =>
   have hx := h x (List.mem_cons_self ..)
   rw [List.flatMap_cons, List.drop_succ_cons, Nat.mul_succ, Nat.add_comm, drop_pre _ _ c (c * i) hx]
   exact ih l (fun y hy => h y (List.mem_cons_of_mem _ hy)) (by simp at hi; omega)
theorem flat_at {α : Type} (f : α → List Int) (c : Nat) (l : List α) (h : ∀ x ∈ l, (f x).length = c) (i : Nat) (hi : i < l.length) (rest : List Int) :
  (l.flatMap f ++ rest).drop (c * i) = f l[i] ++ ((l.drop (i + 1)).flatMap f ++ rest) := by
 have hl : (l.flatMap f).length = c * l.length := by
  rw [List.length_flatMap]
  clear hi
  induction l with
  | nil => rfl
  | cons x l ih => rw [List.map_cons, List.sum_cons, h x (List.mem_cons_self ..), ih (fun y hy => h y (List.mem_cons_of_mem _ hy)), List.length_cons, Nat.mul_succ, Nat.add_comm]
 have hc : c * i ≤ c * l.length := Nat.mul_le_mul_left c (Nat.le_of_lt hi)
 rw [List.drop_append_of_le_length (by omega), flat_drop f c l h i (Nat.le_of_lt hi), List.drop_eq_getElem_cons hi, List.flatMap_cons, List.append_assoc]
theorem flat_length {α : Type} (f : α → List Int) (c : Nat) (l : List α) (h : ∀ x ∈ l, (f x).length = c) : (l.flatMap f).length = c * l.length := by
 rw [List.length_flatMap]
 induction l with
 | nil => rfl
 | cons x l ih => rw [List.map_cons, List.sum_cons, h x (List.mem_cons_self ..), ih (fun y hy => h y (List.mem_cons_of_mem _ hy)), List.length_cons, Nat.mul_succ, Nat.add_comm]
theorem rd_zero (x : Int) (xs : List Int) : rd (x :: xs) 0 = x := rfl
theorem fits_fit {m : Nat} (hm : m = 4 ∨ m = 8) {n : Int} (h8 : fit 8 n) (hf : fitsB n m = true) : fit m n := by
 rcases hm with rfl | rfl
 ·
  unfold fitsB at hf
  rw [if_pos (show ((4 : Nat) : Int) = 4 from rfl)] at hf
  have e := eq_of_beq hf
  rw [fit4]
  rw [fit8] at h8
  unfold wrap64 wrap32 at e
  omega
 ·
  exact h8
theorem all_at {n : Nat} {f : Nat → Bool} (h : (List.range n).all f = true) {i : Nat} (hi : i < n) : f i = true := List.all_eq_true.mp h i (List.mem_range.2 hi)
theorem corr_bd (size version : Int) (l : List S67) (hw : ∀ x ∈ l, fit 8 x.f1) (h : leapedB size version l = true) : ∀ i (hi : i < l.length), -(i + 1 : Int) ≤ l[i].f1 ∧ l[i].f1 ≤ i + 1 := by
 unfold leapedB at h
 rw [Bool.and_eq_true, decide_eq_true_eq] at h
 intro i
 induction i with
 | zero =>
  intro hi
  have h0 := all_at h.1 hi
  have hw0 := fit8.1 (hw l[0] (List.getElem_mem hi))
  unfold lokB at h0
  simp only [Bool.and_eq_true, Bool.or_eq_true, beq_iff_eq] at h0
  obtain ⟨⟨_, hs⟩, _⟩ := h0
  have e : rd_T67 l ((0 : Nat) : Int) = l[0] := rd67 l 0 hi
  have es : stepL l 0 = wrap64 (l[0].f1 - 0) := by unfold stepL wasL; rw [e, if_pos rfl]
  have hq : wrap64 (l[0].f1 - 0) = l[0].f1 := by rw [Hand.w64 (by omega) (by omega)]; omega
  rw [es, hq] at hs
  rcases hs with (hs | hs) | hs
  ·
   omega
  ·
   omega
  ·
   unfold lastL at hs; simp at hs
 | succ i ih =>
  intro hi
  have hp := ih (by omega)
  have h0 := all_at h.1 hi
  have hw0 := fit8.1 (hw l[i + 1] (List.getElem_mem hi))
  have hw1 := fit8.1 (hw l[i] (List.getElem_mem (by omega)))
  have hlen := h.2
  unfold lokB at h0
  simp only [Bool.and_eq_true, Bool.or_eq_true, beq_iff_eq] at h0
  obtain ⟨⟨_, hs⟩, _⟩ := h0
  have e : rd_T67 l ((i + 1 : Nat) : Int) = l[i + 1] := rd67 l (i + 1) hi
  have e2 : rd_T67 l (((i + 1 - 1 : Nat)) : Int) = l[i] := rd67 l i (by omega)
  have es : stepL l (i + 1) = wrap64 (l[i + 1].f1 - l[i].f1) := by unfold stepL wasL; rw [e, if_neg (by omega), e2]
  have hx : stepL l (i + 1) = 1 ∨ stepL l (i + 1) = -1 ∨ stepL l (i + 1) = 0 := by
   rcases hs with (hs | hs) | hs
   ·
    exact .inl hs
   ·
    exact .inr (.inl hs)
   ·
    unfold lastL at hs
    simp only [Bool.and_eq_true, beq_iff_eq] at hs
    exact .inr (.inr hs.2)
  rw [es] at hx
  unfold wrap64 at hx
  omega
theorem encL_len (m : Nat) (K : List S56) (J : List S54) (L : List S67) (S U : List Bool) : (encL m K J L S U).length = bodyN m U.length S.length L.length J.length K.length (nmSt (names K)).1.length := by
 have hz : (K.zip (nmSt (names K)).2.2).length = K.length := by rw [List.length_zip, (nmSt_len _).2]; simp [names]
 unfold encL bodyN
 simp only [List.length_append]
 rw [flat_length (jA m) m J (fun x _ => jA_len m x), flat_length jB 1 J (fun x _ => rfl), flat_length kA 6 _ (fun x _ => kA_len x), flat_length (lA m) (m + 4) L (fun x _ => lA_len m x), tr_len, tr_len, bytesOf_length, sz_l, hz]
 have h1 : (m + 1) * J.length = m * J.length + J.length := by rw [Nat.add_mul, Nat.one_mul]
 omega
section
variable (m : Nat) (K : List S56) (J : List S54) (L : List S67) (S U : List Bool)
def pJA : List Int := J.flatMap (jA m)
def pJB : List Int := J.flatMap jB
def pK : List Int := (K.zip (nmSt (names K)).2.2).flatMap kA
def pN : List Int := bytesOf ⟨(nmSt (names K)).1.toArray⟩
def pL : List Int := L.flatMap (lA m)
theorem encL_parts : encL m K J L S U = pJA m J ++ (pJB J ++ (pK K ++ (pN K ++ (pL m L ++ (tr S ++ tr U))))) := by
 unfold encL pJA pJB pK pN pL
 simp only [List.append_assoc]
theorem pJA_len : (pJA m J).length = m * J.length := flat_length _ _ _ (fun x _ => jA_len m x)
theorem pJB_len : (pJB J).length = J.length := by unfold pJB; rw [flat_length jB 1 J (fun x _ => rfl), Nat.one_mul]
theorem zip_len : (K.zip (nmSt (names K)).2.2).length = K.length := by rw [List.length_zip, (nmSt_len _).2]; simp [names]
theorem pK_len : (pK K).length = 6 * K.length := by unfold pK; rw [flat_length kA 6 _ (fun x _ => kA_len x), zip_len]
theorem pN_len : (pN K).length = (nmSt (names K)).1.length := by unfold pN; rw [bytesOf_length, sz_l]
theorem pL_len : (pL m L).length = (m + 4) * L.length := flat_length _ _ _ (fun x _ => lA_len m x)
theorem at_o1 (q : Nat) : (encL m K J L S U).drop (o1 m J.length + q) = (pK K ++ (pN K ++ (pL m L ++ (tr S ++ tr U)))).drop q := by
 have h : o1 m J.length + q = m * J.length + (J.length + q) := by unfold o1; rw [Nat.add_mul]; omega
 rw [h, encL_parts, drop_pre _ _ _ _ (pJA_len m J), drop_pre _ _ _ _ (pJB_len J)]
theorem at_o2 (q : Nat) : (encL m K J L S U).drop (o2 m J.length K.length + q) = (pN K ++ (pL m L ++ (tr S ++ tr U))).drop q := by
 have h : o2 m J.length K.length + q = o1 m J.length + (6 * K.length + q) := by unfold o2; omega
 rw [h, at_o1, drop_pre _ _ _ _ (pK_len K)]
theorem at_o3 (q : Nat) : (encL m K J L S U).drop (o3 m J.length K.length (nmSt (names K)).1.length + q) = (pL m L ++ (tr S ++ tr U)).drop q := by
 have h : o3 m J.length K.length (nmSt (names K)).1.length + q = o2 m J.length K.length + ((nmSt (names K)).1.length + q) := by unfold o3; omega
 rw [h, at_o2, drop_pre _ _ _ _ (pN_len K)]
theorem at_o4 (q : Nat) : (encL m K J L S U).drop (o4 m L.length J.length K.length (nmSt (names K)).1.length + q) = (tr S ++ tr U).drop q := by
 have h : o4 m L.length J.length K.length (nmSt (names K)).1.length + q = o3 m J.length K.length (nmSt (names K)).1.length + ((m + 4) * L.length + q) := by unfold o4; omega
 rw [h, at_o3, drop_pre _ _ _ _ (pL_len m L)]
theorem at_o5 : (encL m K J L S U).drop (o5 m S.length L.length J.length K.length (nmSt (names K)).1.length) = tr U := by
 have h : o5 m S.length L.length J.length K.length (nmSt (names K)).1.length = o4 m L.length J.length K.length (nmSt (names K)).1.length + (S.length + 0) := by unfold o5; omega
 rw [h, at_o4, drop_pre _ _ _ _ (tr_len S), List.drop_zero]
theorem isOne_tr (l : List Bool) : isOne (tr l) = l := by
 unfold isOne tr
 rw [List.map_map]
 conv => rhs; rw [← List.map_id l]
 apply List.map_congr_left
 intro b _
 cases b <;> rfl
theorem allB_tr (l : List Bool) : allB (tr l) = true := by
 unfold allB tr
 rw [List.all_map, List.all_eq_true]
 intro b _
 cases b <;> rfl
theorem dS_eq : dS m S.length L.length J.length K.length (nmSt (names K)).1.length (encL m K J L S U) = tr S := by
 unfold dS
 have h := at_o4 m K J L S U 0
 rw [Nat.add_zero, List.drop_zero] at h
 rw [h, List.take_append_of_le_length (by rw [tr_len]; exact Nat.le_refl _), List.take_of_length_le (by rw [tr_len]; exact Nat.le_refl _)]
theorem dU_eq : dU m U.length S.length L.length J.length K.length (nmSt (names K)).1.length (encL m K J L S U) = tr U := by
 unfold dU
 rw [at_o5, List.take_of_length_le (by rw [tr_len]; exact Nat.le_refl _)]
theorem dNs_eq : dNs m J.length K.length (nmSt (names K)).1.length (encL m K J L S U) = pN K := by
 unfold dNs
 have h := at_o2 m K J L S U 0
 rw [Nat.add_zero, List.drop_zero] at h
 rw [h, List.take_append_of_le_length (by rw [pN_len]; exact Nat.le_refl _), List.take_of_length_le (by rw [pN_len]; exact Nat.le_refl _)]
theorem ext_range {α : Type} (l : List α) (f : Nat → α) (h : ∀ i (hi : i < l.length), f i = l[i]) : (List.range l.length).map f = l := by
 apply List.ext_getElem
 ·
  simp
 ·
  intro i h1 h2
  rw [List.getElem_map, List.getElem_range]
  exact h i h2
theorem wrap_small (n : Int) (h0 : 0 ≤ n) (h1 : n < 256) : wrap64 (n % 256) = n := by rw [Hand.w64 (by omega) (by omega)]; omega
theorem dJ_eq (hm : m = 4 ∨ m = 8) (hJ : ∀ j ∈ J, fit m j.f0 ∧ 0 ≤ j.f1 ∧ j.f1 < 256) : dJ m J.length (encL m K J L S U) = J := by
 unfold dJ
 refine ext_range J _ (fun i hi => ?_)
 obtain ⟨h1, h2, h3⟩ := hJ J[i] (List.getElem_mem hi)
 unfold jump1
 rw [encL_parts]
 have e1 : (pJA m J ++ (pJB J ++ (pK K ++ (pN K ++ (pL m L ++ (tr S ++ tr U)))))).drop (m * i) = jA m J[i] ++ ((J.drop (i + 1)).flatMap (jA m) ++ (pJB J ++ (pK K ++ (pN K ++ (pL m L ++ (tr S ++ tr U)))))) := flat_at (jA m) m J (fun x _ => jA_len m x) i hi _
 have e2 : (pJA m J ++ (pJB J ++ (pK K ++ (pN K ++ (pL m L ++ (tr S ++ tr U)))))).drop (m * J.length + i) = jB J[i] ++ ((J.drop (i + 1)).flatMap jB ++ (pK K ++ (pN K ++ (pL m L ++ (tr S ++ tr U))))) := by
  rw [drop_pre _ _ _ _ (pJA_len m J)]
  have := flat_at jB 1 J (fun x _ => rfl) i hi (pK K ++ (pN K ++ (pL m L ++ (tr S ++ tr U))))
  rw [Nat.one_mul] at this
  exact this
 rw [e1, e2]
 have e3 : numU m (jA m J[i] ++ ((J.drop (i + 1)).flatMap (jA m) ++ (pJB J ++ (pK K ++ (pN K ++ (pL m L ++ (tr S ++ tr U))))))) = J[i].f0 := num_back m hm _ h1 _
 have e4 : wrap64 (rd (jB J[i] ++ ((J.drop (i + 1)).flatMap jB ++ (pK K ++ (pN K ++ (pL m L ++ (tr S ++ tr U)))))) 0) = J[i].f1 := wrap_small _ h2 h3
 rw [e3, e4]
theorem dL_eq (hm : m = 4 ∨ m = 8) (hL : ∀ x ∈ L, fit m x.f0 ∧ fit 4 x.f1) : dL m L.length J.length K.length (nmSt (names K)).1.length (encL m K J L S U) = L := by
 unfold dL
 refine ext_range L _ (fun i hi => ?_)
 obtain ⟨h1, h2⟩ := hL L[i] (List.getElem_mem hi)
 unfold leap1
 have e1 : (encL m K J L S U).drop (o3 m J.length K.length (nmSt (names K)).1.length + (m + 4) * i) = lA m L[i] ++ ((L.drop (i + 1)).flatMap (lA m) ++ (tr S ++ tr U)) := by
  rw [at_o3]
  exact flat_at (lA m) (m + 4) L (fun x _ => lA_len m x) i hi _
 have e2 : (encL m K J L S U).drop (o3 m J.length K.length (nmSt (names K)).1.length + (m + 4) * i + m) = be 4 (u64w L[i].f1) ++ ((L.drop (i + 1)).flatMap (lA m) ++ (tr S ++ tr U)) := by
  rw [← List.drop_drop, e1]
  unfold lA
  rw [List.append_assoc, List.drop_append_of_le_length (by rw [be_len]; exact Nat.le_refl _), List.drop_of_length_le (by rw [be_len]; exact Nat.le_refl _), List.nil_append]
 rw [e2, e1, num_back 4 (.inl rfl) _ h2]
 have e3 : numU m (lA m L[i] ++ ((L.drop (i + 1)).flatMap (lA m) ++ (tr S ++ tr U))) = L[i].f0 := by
  unfold lA
  rw [List.append_assoc]
  exact num_back m hm _ h1 _
 rw [e3]
theorem kind_at (i : Nat) (hi : i < K.length) : ∃ (p : Nat) (rest : List Int), (encL m K J L S U).drop (o1 m J.length + 6 * i) = be 4 (u64w K[i].f0) ++ (b1 K[i].f1 :: ((p : Int) % 256) :: rest) ∧ (∃ pre post : List UInt8, (nmSt (names K)).1 = pre ++ K[i].f2.data.toList ++ 0 :: post ∧ pre.length = p) := by
 have hl : (names K).length = K.length := by simp [names]
 have hz : i < (K.zip (nmSt (names K)).2.2).length := by rw [zip_len]; exact hi
 have inv := nm_inv (names K)
 obtain ⟨p, hp, hat⟩ := inv.at_ i (by omega)
 have hn : (names K)[i]'(by omega) = K[i].f2 := by simp [names]
 rw [hn] at hp
 have hat2 : (nmSt (names K)).2.2[i]'(by rw [inv.len]; omega) = (p : Int) % 256 := by
  rw [List.getElem?_eq_getElem (by rw [inv.len]; omega)] at hat
  exact Option.some.inj hat
 obtain ⟨pre, post, h1, h2⟩ := inv.place _ p hp
 refine ⟨p, ((K.zip (nmSt (names K)).2.2).drop (i + 1)).flatMap kA ++ (pN K ++ (pL m L ++ (tr S ++ tr U))), ?_, pre, post, h1, h2⟩
 rw [at_o1]
 have e := flat_at kA 6 _ (fun x _ => kA_len x) i hz (pN K ++ (pL m L ++ (tr S ++ tr U)))
 have ek : kA (K.zip (nmSt (names K)).2.2)[i] = be 4 (u64w K[i].f0) ++ [b1 K[i].f1] ++ [(p : Int) % 256] := by
  rw [List.getElem_zip, hat2]
  rfl
 rw [ek] at e
 unfold pK
 rw [e]
 simp
theorem kind_read (hn : (nmSt (names K)).1.length ≤ 256) (i : Nat) (hi : i < K.length) (h4 : fit 4 K[i].f0) (hz : Lib.indexByte K[i].f2.data.toList 0 < 0) :
  kind1 (o1 m J.length) (pN K) (encL m K J L S U) i = K[i] ∧ ktrue (o1 m J.length) (encL m K J L S U) i = true ∧ kname (o1 m J.length) (pN K) (encL m K J L S U) i = true := by
 obtain ⟨p, rest, e, pre, post, h1, h2⟩ := kind_at m K J L S U i hi
 have hp : p < 256 := by
  have := congrArg List.length h1
  simp only [List.length_append, List.length_cons] at this
  omega
 have e4 : (encL m K J L S U).drop (o1 m J.length + 6 * i + 4) = b1 K[i].f1 :: ((p : Int) % 256) :: rest := by
  rw [← List.drop_drop, e, List.drop_append_of_le_length (by rw [be_len]; exact Nat.le_refl _), List.drop_of_length_le (by rw [be_len]; exact Nat.le_refl _), List.nil_append]
 have e5 : (encL m K J L S U).drop (o1 m J.length + 6 * i + 5) = ((p : Int) % 256) :: rest := by
  rw [show o1 m J.length + 6 * i + 5 = (o1 m J.length + 6 * i + 4) + 1 from rfl, ← List.drop_drop, e4]
  rfl
 have hk : kat (o1 m J.length) (encL m K J L S U) i = (p : Int) := by
  unfold kat
  rw [e5, rd_zero, wrap_small _ (by omega) (by omega)]
 have hnm : nameI (pN K) (p : Int) = (K[i].f2, true) := name_at _ pre post _ p h1 h2 hz
 refine ⟨?_, ?_, ?_⟩
 ·
  unfold kind1
  rw [e, e4, hk, hnm, rd_zero, num_back 4 (.inl rfl) _ h4]
  have eb : (b1 K[i].f1 == 1) = K[i].f1 := by cases K[i].f1 <;> rfl
  rw [eb]
 ·
  unfold ktrue
  rw [e4, rd_zero]
  cases K[i].f1 <;> rfl
 ·
  unfold kname
  rw [hk, hnm]
theorem dec_enc (hm : m = 4 ∨ m = 8) (v : Int) (hv : 1 ≤ v ∧ v ≤ 4) (hr : rightB m v K J L S U = true) (hJ : ∀ j ∈ J, fit 8 j.f0) (hL : ∀ x ∈ L, fit 8 x.f0 ∧ fit 8 x.f1) (more : List Int) :
  block_Decode.f (encL m K J L S U ++ more) v U.length S.length L.length J.length K.length (nmSt (names K)).1.length m = some (K, J, L, S, U, 0) := by
 have hlen := encL_len m K J L S U
 obtain ⟨_, b2, b3, b4, b5, b6, b7, b8⟩ := rightB_bd hr
 have hr0 := hr
 unfold rightB kindedB at hr
 simp only [Bool.and_eq_true, Bool.or_eq_true, decide_eq_true_eq] at hr
 obtain ⟨⟨⟨_, ⟨_, hk⟩, hn⟩, hj⟩, hl⟩ := hr
 have hne : 1 ≤ (nmSt (names K)).1.length := by
  have := nmSt_ne (names K) (by intro e; have := congrArg List.length e; simp [names] at this; rw [this] at b2; simp at b2)
  cases h : (nmSt (names K)).1 with
  | nil => exact absurd h this
  | cons _ _ => simp
 have hJ2 : ∀ j ∈ J, fit m j.f0 ∧ 0 ≤ j.f1 ∧ j.f1 < 256 := by
  intro j hj0
  obtain ⟨i, hi, rfl⟩ := List.getElem_of_mem hj0
  unfold jumpedB at hj
  rw [Bool.and_eq_true] at hj
  have h := all_at hj.1 hi
  unfold jokB at h
  rw [rd54 J i hi] at h
  simp only [Bool.and_eq_true, Bool.not_eq_true', decide_eq_false_iff_not] at h
  obtain ⟨⟨⟨_, h2⟩, h3⟩, h4⟩ := h
  exact ⟨fits_fit hm (hJ _ hj0) h4, by omega, by omega⟩
 have hL2 : ∀ x ∈ L, fit m x.f0 ∧ fit 4 x.f1 := by
  intro x hx0
  obtain ⟨i, hi, rfl⟩ := List.getElem_of_mem hx0
  have hc := corr_bd _ _ L (fun y hy => (hL y hy).2) hl i hi
  have hl2 := hl
  unfold leapedB at hl2
  rw [Bool.and_eq_true] at hl2
  have h := all_at hl2.1 hi
  unfold lokB at h
  rw [rd67 L i hi] at h
  simp only [Bool.and_eq_true] at h
  exact ⟨fits_fit hm (hL _ hx0).1 h.2, fit4.2 (by omega)⟩
 have hK : ∀ i (hi : i < K.length), fit 4 K[i].f0 ∧ Lib.indexByte K[i].f2.data.toList 0 < 0 := by
  intro i hi
  have h := all_at hk hi
  unfold kokB hasZero at h
  rw [rd56 K i hi] at h
  simp only [Bool.and_eq_true, Bool.not_eq_true', decide_eq_false_iff_not] at h
  obtain ⟨⟨⟨h1, h2⟩, h3⟩, _⟩ := h
  exact ⟨fit4.2 (by omega), by omega⟩
 have hdK : dK m J.length K.length (nmSt (names K)).1.length (encL m K J L S U) = K := by
  unfold dK
  rw [dNs_eq]
  exact ext_range K _ (fun i hi => (kind_read m K J L S U b8 i hi (hK i hi).1 (hK i hi).2).1)
 have hdJ := dJ_eq m K J L S U hm hJ2
 have hdL := dL_eq m K J L S U hm hL2
 have hOK : dOK m U.length S.length L.length J.length K.length (nmSt (names K)).1.length (encL m K J L S U) = true := by
  unfold dOK
  rw [dNs_eq, dS_eq, dU_eq, allB_tr, allB_tr, Bool.and_true, Bool.and_true, Bool.and_eq_true, List.all_eq_true, List.all_eq_true]
  refine ⟨fun i hi => ?_, fun i hi => ?_⟩
  ·
   have := List.mem_range.1 hi
   exact (kind_read m K J L S U b8 i this (hK i this).1 (hK i this).2).2.1
  ·
   have := List.mem_range.1 hi
   exact (kind_read m K J L S U b8 i this (hK i this).1 (hK i this).2).2.2
 have hRt : dRight m v U.length S.length L.length J.length K.length (nmSt (names K)).1.length (encL m K J L S U) = true := by
  unfold dRight
  rw [hdK, hdJ, hdL, dS_eq, dU_eq, isOne_tr, isOne_tr]
  exact hr0
 unfold block_Decode.f
 rw [if_pos ⟨by rcases hm with rfl | rfl <;> simp, ⟨hv.1, hv.2⟩, ⟨by omega, by omega⟩, ⟨by omega, by omega⟩, ⟨by omega, by omega⟩, ⟨by omega, by omega⟩, by omega, by omega⟩]
 simp only [Int.toNat_natCast]
 have ht : (encL m K J L S U ++ more).take (bodyN m U.length S.length L.length J.length K.length (nmSt (names K)).1.length) = encL m K J L S U := by
  rw [List.take_append_of_le_length (by omega), List.take_of_length_le (by omega)]
 rw [if_neg (by rw [List.length_append]; omega), ht, if_pos ⟨hOK, hRt⟩, hdK, hdJ, hdL, dS_eq, dU_eq, isOne_tr, isOne_tr]
end
end Go.Proofs.Ythobnoknbdljgaa
end
section
namespace Go.Proofs.Ythobnoknbdljgaa.Hand
open Go.ChangeShapes Go.WideShapes Go.Deep Go.Joins Go.RowKit Go.Proofs.YthobnoknbdljgaaW.PrintWords PB0
section
variable {H : Type} {enc : TypeId × Value → H} {P : Program} {w : World} {base : Nat} {spare : Nat → Bool} {held : Bool}
theorem open_C {α : Type} [Inhabited α] (d : Kd α) (good : α → Prop) {t e : TypeId} {fuel : Nat} {cs : List Value} {x : DataW H × List MemPlace} (ht : P.underlying t = some (.slice e)) (hc : P.cellsOf e = d.sz)
  (hel : ∀ (n : Nat) (cs' : List Value) (y : DataW H × List MemPlace), DataW.trod enc P w base spare held n e cs' = some y → cs'.length = d.sz → ∃ q : α, d.K w q cs' ∧ good q)
  (h : DataW.trod enc P w base spare held fuel t cs = some x) :
  ∃ (A : Option Addr) (c : Nat) (xs : List α), cs = [.slice A xs.length c] ∧ d.C w A xs.length xs ∧ xs.length ≤ c ∧ ∀ q ∈ xs, good q := by
 rcases open_slice ht h with ⟨rfl, _⟩ | ⟨a, len, cap, m, n, D, Pl, rfl, hb, hl, hm, hmm, hx, hi⟩
 ·
  exact ⟨none, 0, [], rfl, ⟨rfl, by simp, fun h => by simp at h⟩, Nat.le_refl _, fun q hq => by cases hq⟩
 ·
  have hlm : len ≤ m := by rw [hmm]; split <;> omega
  have each : ∀ i, i < len → ∃ q : α, good q ∧ ∃ c : List Value, c.length = d.sz ∧ d.K w q c ∧ ∀ k u, c[k]? = some u → w.cell? (a.add (i * d.sz + k)) = some u := by
   intro i hlt
   obtain ⟨cs', h1, h2⟩ := hi i (by omega)
   obtain ⟨_, hlen, hcell⟩ := World.cells?_some h1
   rw [hc] at hlen hcell
   obtain ⟨q, hq, hg⟩ := hel _ _ _ h2 hlen
   refine ⟨q, hg, cs', hlen, hq, fun k u hu => ?_⟩
   have hk : k < d.sz := by have := (List.getElem?_eq_some_iff.1 hu).1; omega
   rw [← Go.Deep.add_add, hcell k hk, hu]
  obtain ⟨q, hq⟩ := choose_lt each
  have hl2 : ((List.range len).map q).length = len := by simp
  refine ⟨some a, cap, (List.range len).map q, by rw [hl2], ?_, by rw [hl2]; exact hl, ?_⟩
  ·
   rw [hl2]
   refine ⟨hl2, by have : maxLen = 2 ^ 63 - 1 := rfl; omega, fun _ => ⟨a, rfl, fun j p hp => ?_⟩⟩
   rw [List.getElem?_map] at hp
   obtain ⟨i, hi1, hi2⟩ := Option.map_eq_some_iff.1 hp
   obtain ⟨hi3, hi4⟩ := List.getElem?_eq_some_iff.1 hi1
   rw [List.getElem_range] at hi4
   subst hi4
   rw [List.length_range] at hi3
   subst hi2
   obtain ⟨_, c, h1, h2, h3⟩ := hq j hi3
   exact ⟨c, h1, h2, h3⟩
  ·
   intro p hp
   obtain ⟨i, hi1, rfl⟩ := List.mem_map.1 hp
   exact (hq i (List.mem_range.1 hi1)).1
end
instance : Inhabited S56 := ⟨⟨0, false, ⟨#[]⟩⟩⟩
instance : Inhabited S54 := ⟨⟨0, 0⟩⟩
instance : Inhabited S67 := ⟨⟨0, 0⟩⟩
def wfi (n : Int) : Prop := -9223372036854775808 ≤ n ∧ n ≤ 9223372036854775807
theorem wfi_of {n : Int} (h : (Lit.int .i64 n).wf = true) : wfi n := by
 simp only [Lit.wf, Bool.and_eq_true, decide_eq_true_eq] at h
 have h1 : IntKind.i64.min = -9223372036854775808 := by decide
 have h2 : IntKind.i64.max = 9223372036854775807 := by decide
 rw [h1, h2] at h
 unfold wfi
 omega
def good56 (x : S56) : Prop := wfi x.f0
def good54 (x : S54) : Prop := wfi x.f0 ∧ wfi x.f1
def good67 (x : S67) : Prop := wfi x.f0 ∧ wfi x.f1
section
variable {H : Type} {enc : TypeId × Value → H} {w : World} {base : Nat} {spare : Nat → Bool} {held : Bool} {fuel : Nat} {cs : List Value} {x : DataW H × List MemPlace}
set_option maxRecDepth 100000 in
theorem open56 (h : DataW.trod enc Try.prog w base spare held fuel 22 cs = some x) : ∃ (A : Option Addr) (c : Nat) (xs : List S56), cs = [.slice A xs.length c] ∧ Kd.C k56 w A xs.length xs ∧ xs.length ≤ c ∧ ∀ q ∈ xs, good56 q := by
 refine open_C k56 good56 Try.underlying22 (by kernel_rfl) ?_ h
 intro n cs' y h hl
 obtain ⟨y0, y1, y2, m, _, _, h0, h1, h2⟩ := trod_struct3 Try.underlying56 h
 match cs', (show cs'.length = 3 from hl) with
 | [a, b, c], _ =>
  obtain ⟨z0, e0, _, hw⟩ := DataW.trod_int (by kernel_rfl) h0
  obtain ⟨z1, e1, _⟩ := DataW.trod_bool (by kernel_rfl) h1
  obtain ⟨z2, e2, _, _⟩ := DataW.trod_string (by kernel_rfl) h2
  have e0' : [a] = [.int .i64 z0] := by rw [← e0]; kernel_rfl
  have e1' : [b] = [.bool z1] := by rw [← e1]; kernel_rfl
  have e2' : [c] = [.string z2] := by rw [← e2]; kernel_rfl
  injection e0' with e0'
  injection e1' with e1'
  injection e2' with e2'
  subst e0' e1' e2'
  exact ⟨⟨z0, z1, z2⟩, k56_mk _ _, wfi_of hw⟩
set_option maxRecDepth 100000 in
theorem open54 (h : DataW.trod enc Try.prog w base spare held fuel 23 cs = some x) : ∃ (A : Option Addr) (c : Nat) (xs : List S54), cs = [.slice A xs.length c] ∧ Kd.C k54 w A xs.length xs ∧ xs.length ≤ c ∧ ∀ q ∈ xs, good54 q := by
 refine open_C k54 good54 Try.underlying23 (by kernel_rfl) ?_ h
 intro n cs' y h hl
 obtain ⟨y0, y1, m, _, _, h0, h1⟩ := trod_struct2 Try.underlying54 h
 match cs', (show cs'.length = 2 from hl) with
 | [a, b], _ =>
  obtain ⟨z0, e0, _, hw⟩ := DataW.trod_int (by kernel_rfl) h0
  obtain ⟨z1, e1, _, hw1⟩ := DataW.trod_int (by kernel_rfl) h1
  have e0' : [a] = [.int .i64 z0] := by rw [← e0]; kernel_rfl
  have e1' : [b] = [.int .i64 z1] := by rw [← e1]; kernel_rfl
  injection e0' with e0'
  injection e1' with e1'
  subst e0' e1'
  exact ⟨⟨z0, z1⟩, k54_mk _ _, wfi_of hw, wfi_of hw1⟩
set_option maxRecDepth 100000 in
theorem open67 (h : DataW.trod enc Try.prog w base spare held fuel 24 cs = some x) : ∃ (A : Option Addr) (c : Nat) (xs : List S67), cs = [.slice A xs.length c] ∧ Kd.C k67 w A xs.length xs ∧ xs.length ≤ c ∧ ∀ q ∈ xs, good67 q := by
 refine open_C k67 good67 Try.underlying24 (by kernel_rfl) ?_ h
 intro n cs' y h hl
 obtain ⟨y0, y1, m, _, _, h0, h1⟩ := trod_struct2 Try.underlying67 h
 match cs', (show cs'.length = 2 from hl) with
 | [a, b], _ =>
  obtain ⟨z0, e0, _, hw⟩ := DataW.trod_int (by kernel_rfl) h0
  obtain ⟨z1, e1, _, hw1⟩ := DataW.trod_int (by kernel_rfl) h1
  have e0' : [a] = [.int .i64 z0] := by rw [← e0]; kernel_rfl
  have e1' : [b] = [.int .i64 z1] := by rw [← e1]; kernel_rfl
  injection e0' with e0'
  injection e1' with e1'
  subst e0' e1'
  exact ⟨⟨z0, z1⟩, k67_mk _ _, wfi_of hw, wfi_of hw1⟩
theorem openB (h : DataW.trod enc Try.prog w base spare held fuel 25 cs = some x) : ∃ (A : Option Addr) (c : Nat) (xs : List Bool), cs = [.slice A xs.length c] ∧ Kd.C Kd.bool w A xs.length xs ∧ xs.length ≤ c ∧ ∀ q ∈ xs, True := by
 refine open_C Kd.bool (fun _ => True) Try.underlying25 (by kernel_rfl) ?_ h
 intro n cs' y h hl
 obtain ⟨b, e, _⟩ := DataW.trod_bool (by kernel_rfl) h
 exact ⟨b, e, trivial⟩
end
end Go.Proofs.Ythobnoknbdljgaa.Hand
end
section
namespace Go.Proofs.Ythobnoknbdljgaa
open Go.RowKit Hand PB0 Go.Proofs.YthobnoknbdljgaaW.PrintWords Stub Stub2
theorem nmSum_cap (l : List ByteArray) (b : Nat) (h : ∀ s ∈ l, s.size ≤ b) : nmSum l ≤ (b + 1) * l.length := by
 induction l with
 | nil => simp [nmSum]
 | cons a l ih =>
  have h1 := h a (by simp)
  have h2 := ih (fun s hs => h s (by simp [hs]))
  have e : nmSum (a :: l) = (a.size + 1) + nmSum l := by simp [nmSum]
  rw [e, List.length_cons, Nat.mul_add]
  omega
theorem cutK_size (x : S56) : (cutK x).f2.size ≤ 60 := by
 unfold cutK
 show (x.f2.extract 0 (min x.f2.size 60)).size ≤ 60
 rw [ByteArray.size_extract]
 omega
structure Small (K : List S56) (J : List S54) (L : List S67) (S U : List Bool) : Prop where
 k : K.length ≤ 40
 j : J.length ≤ 100
 l : L.length ≤ 50
 s : S.length ≤ 40
 u : U.length ≤ 40
 n : ∀ x ∈ K, x.f2.size ≤ 60
 gk : ∀ x ∈ K, good56 x
 gj : ∀ x ∈ J, good54 x
 gl : ∀ x ∈ L, good67 x
theorem small_few {l0 : List S56} {l1 : List S54} {l2 : List S67} {l3 l4 : List Bool} (g0 : ∀ x ∈ l0, good56 x) (g1 : ∀ x ∈ l1, good54 x) (g2 : ∀ x ∈ l2, good67 x) :
  ∃ K J L S U, longcaselaw06_few.f l0 l1 l2 l3 l4 = some (K, J, L, S, U) ∧ Small K J L S U := by
 refine ⟨_, _, _, _, _, rfl, ?_⟩
 constructor
 ·
  rw [List.length_map, List.length_take]; omega
 ·
  rw [List.length_take]; omega
 ·
  rw [List.length_take]; omega
 ·
  rw [List.length_take]; omega
 ·
  rw [List.length_take]; omega
 ·
  intro x hx
  obtain ⟨y, _, rfl⟩ := List.mem_map.1 hx
  exact cutK_size y
 ·
  intro x hx
  obtain ⟨y, hy, rfl⟩ := List.mem_map.1 hx
  exact g0 y (List.mem_of_mem_take hy)
 ·
  exact fun x hx => g1 x (List.mem_of_mem_take hx)
 ·
  exact fun x hx => g2 x (List.mem_of_mem_take hx)
section
variable {K : List S56} {J : List S54} {L : List S67} {S U : List Bool}
theorem Small.ok (h : Small K J L S U) : encOK K J L S U := by
 have hn := nmSum_cap (names K) 60 (by
  intro s hs
  unfold names at hs
  obtain ⟨x, hx, rfl⟩ := List.mem_map.1 hs
  exact h.n x hx)
 have hl : (names K).length = K.length := by simp [names]
 rw [hl] at hn
 have := h.k
 have := h.j
 have := h.l
 have := h.s
 have := h.u
 unfold encOK
 omega
theorem Small.right (h : Small K J L S U) (a b : Int) : block_Right.f K J L S U a b = some (rightB a b K J L S U) := by
 unfold block_Right.f
 rw [if_pos h.ok]
theorem Small.enc (h : Small K J L S U) {m : Nat} {v : Int} (hv : 1 ≤ v ∧ v ≤ 4) (hr : rightB m v K J L S U = true) :
  Stub2.block_Encode.f K J L S U (m : Int) v = some (encL m K J L S U, v, (U.length : Int), (S.length : Int), (L.length : Int), (J.length : Int), (K.length : Int), ((nmSt (names K)).1.length : Int), 0) := by
 unfold Stub2.block_Encode.f encR
 rw [if_pos h.ok, if_pos ⟨hv.1, hv.2, hr⟩, Int.toNat_natCast]
theorem Small.encNo (h : Small K J L S U) {a v : Int} (hv : ¬ (1 ≤ v ∧ v ≤ 4 ∧ rightB a v K J L S U = true)) :
  Stub2.block_Encode.f K J L S U a v = some ([], 0, 0, 0, 0, 0, 0, 0, 1) := by
 unfold Stub2.block_Encode.f encR
 rw [if_pos h.ok, if_neg hv]
theorem Small.dec (h : Small K J L S U) {m : Nat} (hm : m = 4 ∨ m = 8) {v : Int} (hv : 1 ≤ v ∧ v ≤ 4) (hr : rightB m v K J L S U = true) (more : List Int) :
  block_Decode.f (encL m K J L S U ++ more) v U.length S.length L.length J.length K.length (nmSt (names K)).1.length m = some (K, J, L, S, U, 0) :=
 dec_enc m K J L S U hm v hv hr (fun j hj => fit8.2 (h.gj j hj).1) (fun x hx => ⟨fit8.2 (h.gl x hx).1, fit8.2 (h.gl x hx).2⟩) more
theorem Small.same (h : Small K J L S U) : longcaseref06_Same.f K J L S U K J L S U = some true := by
 have h := h.ok
 unfold longcaseref06_Same.f sameB
 rw [if_pos ⟨h.1, h.2.2.1, h.2.2.2.1, h.2.2.2.2.1, h.2.2.2.2.2⟩]
 simp
end
theorem bk_and3 (n : Int) : Go.bits .and .i64 n 3 = n % 4 := by
 have h127 : (BitVec.ofInt 64 3).toNat = 2 ^ 2 - 1 := by decide
 have key : (BitVec.ofInt 64 n &&& BitVec.ofInt 64 3).toNat = (n % ((2 ^ 64 : Nat) : Int)).toNat % 2 ^ 2 := by
  rw [BitVec.toNat_and, BitVec.toNat_ofInt, h127, Nat.and_two_pow_sub_one_eq_mod]
 show IntKind.i64.wrap ((BitVec.ofInt 64 n &&& BitVec.ofInt 64 3).toNat : Nat) = n % 4
 rw [key, IntKind.wrap_i64]
 omega
theorem ver_ok (n : Int) : ∃ v, wrap64 (1 + Go.bits .and .i64 n 3) = v ∧ 1 ≤ v ∧ v ≤ 4 := by
 refine ⟨_, rfl, ?_⟩
 rw [bk_and3, Hand.w64 (by omega) (by omega)]
 omega
end Go.Proofs.Ythobnoknbdljgaa
end
section
namespace Go.Proofs.Ythobnoknbdljgaa
open Go.RowKit Hand PB0 Go.Proofs.YthobnoknbdljgaaW.PrintWords Stub Stub2 PL3
section
variable {K : List S56} {J : List S54} {L : List S67} {S U : List Bool}
theorem Small.short (h : Small K J L S U) {m : Nat} (_hm : m = 4 ∨ m = 8) {v : Int} (hv : 1 ≤ v ∧ v ≤ 4) (hr : rightB m v K J L S U = true) (bs : List Int) (hl : bs.length < (encL m K J L S U).length) :
  block_Decode.f bs v U.length S.length L.length J.length K.length (nmSt (names K)).1.length m = some ([], [], [], [], [], 5) := by
 have hb := rightB_bd hr
 have ll := encL_len m K J L S U
 have hne : 1 ≤ (nmSt (names K)).1.length := by
  have := nmSt_ne (names K) (by intro e; have := congrArg List.length e; simp [names] at this; rw [this] at hb; simp at hb)
  cases h : (nmSt (names K)).1 with
  | nil => exact absurd h this
  | cons _ _ => simp
 have q1 := h.j
 have q2 := h.l
 have q3 := h.k
 have q4 := h.s
 have q5 := h.u
 unfold block_Decode.f
 rw [if_pos ⟨by omega, by unfold rightP; omega⟩]
 simp only [Int.toNat_natCast]
 rw [if_pos (by rw [ll] at hl; exact hl)]
theorem back_j (h : Small K J L S U) {m : Nat} (hm : m = 4 ∨ m = 8) (a : Int) (more : List Int) (hmore : more.length ≤ 50) (k : Nat) : longcaselaw06_BlockBack.j0 (k + 1) a more true (m : Int) K J L S U = some true := by
 obtain ⟨v, hv, hv4⟩ := ver_ok a
 rw [longcaselaw06_BlockBack.j0, hv]
 by_cases hr : rightB m v K J L S U = true
 ·
  have ll := encL_len m K J L S U
  have hb := rightB_bd hr
  have q1 := h.j
  have q2 := h.l
  have q3 := h.k
  have q4 := h.s
  have q5 := h.u
  have hlen : 1 ≤ (encL m K J L S U).length ∧ (encL m K J L S U).length ≤ 5000 := by
   rw [ll]
   unfold bodyN
   rcases hm with rfl | rfl <;> omega
  rw [h.enc hv4 hr, Option.bind_some]
  dsimp only
  rw [if_pos rfl, if_neg (by omega), Option.bind_some, if_pos (by simp; omega), Option.bind_some, List.nil_append, if_pos (by omega), h.dec hm hv4 hr more, Option.bind_some]
  have e : wrap64 (((encL m K J L S U).length : Int) - 1) = ((encL m K J L S U).length : Int) - 1 := Hand.w64 (by omega) (by omega)
  rw [e, if_pos (by omega), if_pos (by omega), h.short hm hv4 hr _ (by rw [List.length_take]; omega), Option.bind_some, if_pos rfl]
  dsimp only
  unfold longcaselaw06_ref.f
  rw [if_pos rfl, Option.bind_some, Option.bind_some]
  dsimp only
  rw [h.same, Option.bind_some, if_pos rfl]
  rfl
 ·
  have hno : ¬ (1 ≤ v ∧ v ≤ 4 ∧ rightB m v K J L S U = true) := fun q => hr q.2.2
  rw [h.encNo hno, Option.bind_some]
  dsimp only
  rw [if_neg (by decide), if_pos rfl, h.right, Option.bind_some]
  rw [Bool.not_eq_true] at hr
  rw [hr]
  rfl
end
theorem back_f {l0 : List S56} {l1 : List S54} {l2 : List S67} {l3 l4 : List Bool} (g0 : ∀ x ∈ l0, good56 x) (g1 : ∀ x ∈ l1, good54 x) (g2 : ∀ x ∈ l2, good67 x) (b : Bool) (a : Int) (l5 : List Int) : longcaselaw06_BlockBack.f 1 l0 l1 l2 l3 l4 b a l5 = some true := by
 obtain ⟨K, J, L, S, U, hf, hs⟩ := small_few (l3 := l3) (l4 := l4) g0 g1 g2
 unfold longcaselaw06_BlockBack.f longcaselaw06_shown.f
 have h0 : 0 ≤ mn (l5.length : Int) 50 := by unfold mn; split <;> omega
 have h1 : mn (l5.length : Int) 50 ≤ (l5.length : Int) := by unfold mn; split <;> omega
 have h2 : (l5.take (mn (l5.length : Int) 50).toNat).length ≤ 50 := by rw [List.length_take]; unfold mn; split <;> omega
 rw [Option.bind_some, hf, Option.bind_some, if_pos h0, if_pos h1]
 dsimp only
 split
 ·
  exact back_j hs (m := 8) (.inr rfl) a _ h2 0
 ·
  exact back_j hs (m := 4) (.inl rfl) a _ h2 0
end Go.Proofs.Ythobnoknbdljgaa
namespace Go.Proofs.Ythobnoknbdljgaa.Hand
open Go.RowKit PB0 Go.Proofs.YthobnoknbdljgaaW.PrintWords
theorem back_row (A0_0 : Option Addr) (c0_0 : Nat) (l0_0 : List S56) (A0_1 : Option Addr) (c0_1 : Nat) (l0_1 : List S54) (A0_2 : Option Addr) (c0_2 : Nat) (l0_2 : List S67) (A0_3 : Option Addr) (c0_3 : Nat) (l0_3 : List Bool) (A0_4 : Option Addr) (c0_4 : Nat) (l0_4 : List Bool) (a1 : Bool) (a2 : Int) (a3 : Option Addr) (len3 cap3 : Nat) (z3 : List Int) (w : World) (hr0_0 : Kd.C k56 w A0_0 l0_0.length l0_0) (hc0_0 : l0_0.length ≤ c0_0) (hr0_1 : Kd.C k54 w A0_1 l0_1.length l0_1) (hc0_1 : l0_1.length ≤ c0_1) (hr0_2 : Kd.C k67 w A0_2 l0_2.length l0_2) (hc0_2 : l0_2.length ≤ c0_2) (hr0_3 : Kd.C Kd.bool w A0_3 l0_3.length l0_3) (hc0_3 : l0_3.length ≤ c0_3) (hr0_4 : Kd.C Kd.bool w A0_4 l0_4.length l0_4) (hc0_4 : l0_4.length ≤ c0_4) (g0 : ∀ x ∈ l0_0, good56 x) (g1 : ∀ x ∈ l0_1, good54 x) (g2 : ∀ x ∈ l0_2, good67 x) (_ : (Lit.int .i64 a2).wf = true)
  (w3 : (a3 = none ∧ len3 = 0 ∧ cap3 = 0 ∧ z3 = []) ∨ ∃ x, a3 = some x ∧ len3 ≤ cap3 ∧ cap3 ≤ maxLen ∧ z3.length = cap3 ∧ (∀ i, i < z3.length → w.cell? (x.add i) = some (.int .u8 (z3.getD i 0))) ∧ ∀ n ∈ z3, (Lit.int .u8 n).wf = true) (_y3 : len3 * 1 ≤ 140737488351232) :
  Calls Try.prog 5 #[.agg #[.slice A0_0 l0_0.length c0_0, .slice A0_1 l0_1.length c0_1, .slice A0_2 l0_2.length c0_2, .slice A0_3 l0_3.length c0_3, .slice A0_4 l0_4.length c0_4], .bool a1, .int .i64 a2, .slice a3 len3 cap3] w fun e w' => e = .returned (.bool true) ∧ Below w.heap.size w w' := by
 obtain ⟨l5, rfl, hr5, hm5, hw5, hc5⟩ := ReadsInt.ofRowC w3
 exact PL3.longcaselaw06_BlockBack.calls 1 A0_0 c0_0 l0_0 A0_1 c0_1 l0_1 A0_2 c0_2 l0_2 A0_3 c0_3 l0_3 A0_4 c0_4 l0_4 a1 a2 a3 cap3 l5 true w hr0_0 hc0_0 hr0_1 hc0_1 hr0_2 hc0_2 hr0_3 hc0_3 hr0_4 hc0_4 (Kd.C_of_reads (d := (0 : Int)) (h1 := fun _ => rfl) hr5) hc5 (back_f g0 g1 g2 a1 a2 l5) rfl
end Go.Proofs.Ythobnoknbdljgaa.Hand
end
