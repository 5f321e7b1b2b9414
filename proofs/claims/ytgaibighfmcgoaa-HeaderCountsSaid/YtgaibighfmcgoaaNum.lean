/- Plain numbers and bytes: what bytes make a number, and what number bytes make. -/
import Derived.Test.YtgaibighfmcgoaaUint
import Derived.Laws.BitsAllLaws
namespace Go.Proofs.Ytgaibighfmcgoaa.Hand
open Go.RowKit
def bval (xs : List Int) : Int := xs.foldl (fun a c => a * 256 + c) 0
def Bytes (xs : List Int) : Prop := ∀ x ∈ xs, 0 ≤ x ∧ x < 256
theorem Bytes.take {xs : List Int} (h : Bytes xs) (n : Nat) : Bytes (xs.take n) := fun x hx => h x (List.mem_of_mem_take hx)
theorem Bytes.drop {xs : List Int} (h : Bytes xs) (n : Nat) : Bytes (xs.drop n) := fun x hx => h x (List.mem_of_mem_drop hx)
theorem Bytes.append {xs ys : List Int} (h : Bytes xs) (h' : Bytes ys) : Bytes (xs ++ ys) := fun x hx => (List.mem_append.1 hx).elim (h x) (h' x)
theorem bval_snoc (xs : List Int) (c : Int) : bval (xs ++ [c]) = bval xs * 256 + c := by simp [bval, List.foldl_append]
theorem foldl_bval (ys : List Int) : ∀ a : Int, ys.foldl (fun a c => a * 256 + c) a = a * 256 ^ ys.length + bval ys := by
  induction ys with
  | nil => intro a; simp [bval]
  | cons y ys ih =>
    intro a
    have e : bval (y :: ys) = ys.foldl (fun a c => a * 256 + c) (0 * 256 + y) := rfl
    rw [List.foldl_cons, ih, e, ih, List.length_cons, Int.pow_succ, Int.add_mul, Int.zero_mul, Int.zero_add, Int.mul_assoc, Int.mul_comm 256 (256 ^ ys.length), Int.add_assoc]
theorem bval_append (xs ys : List Int) : bval (xs ++ ys) = bval xs * 256 ^ ys.length + bval ys := by
  unfold bval
  rw [List.foldl_append]
  exact foldl_bval ys _
theorem bval_cons (x : Int) (ys : List Int) : bval (x :: ys) = x * 256 ^ ys.length + bval ys := by
  have := bval_append [x] ys
  simpa [bval] using this
theorem pow_pos' (n : Nat) : (0 : Int) < 256 ^ n := Int.pow_pos (by decide)
theorem bval_bd (xs : List Int) (h : Bytes xs) : 0 ≤ bval xs ∧ bval xs < 256 ^ xs.length := by
  induction xs with
  | nil => simp [bval]
  | cons x xs ih =>
    have hx := h x (by simp)
    have hi := ih (fun y hy => h y (by simp [hy]))
    have hp := pow_pos' xs.length
    rw [bval_cons, List.length_cons, Int.pow_succ]
    generalize (256 : Int) ^ xs.length = p at *
    constructor
    · have := Int.mul_nonneg hx.1 (Int.le_of_lt hp); omega
    · have h1 : x * p ≤ 255 * p := Int.mul_le_mul_of_nonneg_right (by omega) (by omega)
      omega
theorem pow_mono' {a b : Nat} (h : a ≤ b) : (256 : Int) ^ a ≤ 256 ^ b := by
  obtain ⟨k, rfl⟩ := Nat.exists_eq_add_of_le h
  have h1 := pow_pos' k
  have h2 := pow_pos' a
  rw [Int.pow_add]
  have := Int.mul_le_mul_of_nonneg_left (a := 1) (b := 256 ^ k) (c := 256 ^ a) (by omega) (by omega)
  rw [Int.mul_one] at this
  omega
theorem or_join (a c : Int) (h0 : 0 ≤ a) (h1 : a * 256 + c < 18446744073709551616) (h2 : 0 ≤ c) (h3 : c < 256) :
    Go.bits .or .u64 (IntKind.u64.wrap (a * 256)) (IntKind.u64.wrap c) = a * 256 + c := by
  have e1 : IntKind.u64.wrap (a * 256) = a * 256 := by rw [IntKind.wrap_u64]; omega
  have e2 : IntKind.u64.wrap c = c := by rw [IntKind.wrap_u64]; omega
  rw [e1, e2]
  exact bits_join .u64 64 (by decide) (fun n h0 h1 => by rw [IntKind.wrap_u64]; omega) 8 (a * 256) c (by omega) (by omega) (by omega) (by omega) (by omega) (by omega)
theorem uval_bval (xs : List Int) (h : Bytes xs) (hl : xs.length ≤ 8) : uval xs = bval xs := by
  suffices key : ∀ n, n ≤ xs.length → uval (xs.take n) = bval (xs.take n) by
    have := key xs.length (Nat.le_refl _)
    rwa [List.take_length] at this
  intro n
  induction n with
  | zero => intro _; simp [uval, bval]
  | succ n ih =>
    intro hn
    have e : xs.take (n + 1) = xs.take n ++ [xs[n]] := by rw [List.take_succ_eq_append_getElem (by omega)]
    have hb := bval_bd (xs.take n) (h.take n)
    have hx := h xs[n] (List.getElem_mem _)
    have hlen : (xs.take n).length = n := by rw [List.length_take]; omega
    rw [hlen] at hb
    have hp := pow_mono' (show n ≤ 7 by omega)
    have h7 : (256 : Int) ^ 7 = 72057594037927936 := by decide +kernel
    rw [e, uval_snoc, bval_snoc, ih (by omega)]
    exact or_join _ _ hb.1 (by omega) hx.1 hx.2
/-- so many bytes of a number, the greatest first -/
def be : Nat → Int → List Int
  | 0, _ => []
  | m + 1, n => (n / 256 ^ m % 256) :: be m n
theorem be_len (m : Nat) (n : Int) : (be m n).length = m := by
  induction m with
  | zero => rfl
  | succ m ih => simp [be, ih]
theorem be_bytes (m : Nat) (n : Int) : Bytes (be m n) := by
  induction m with
  | zero => intro x hx; simp [be] at hx
  | succ m ih =>
    intro x hx
    simp only [be, List.mem_cons] at hx
    rcases hx with rfl | hx
    · omega
    · exact ih x hx
theorem bval_be (m : Nat) (n : Int) : bval (be m n) = n % 256 ^ m := by
  induction m with
  | zero => simp [be, bval]
  | succ m ih =>
    rw [be, bval_cons, be_len, ih]
    have hp := pow_pos' m
    rw [Int.pow_succ]
    generalize (256 : Int) ^ m = p at *
    have h1 := Int.mul_ediv_add_emod n p
    have h2 := Int.emod_nonneg n (b := p) (by omega)
    have h3 := Int.emod_lt_of_pos n (b := p) hp
    generalize n / p = q at *
    generalize n % p = r at *
    have h4 := Int.mul_ediv_add_emod q 256
    have h5 : 0 ≤ q % 256 := by omega
    have h6 : q % 256 < 256 := by omega
    generalize q / 256 = q2 at *
    generalize q % 256 = r2 at *
    have e : n = (r2 * p + r) + p * 256 * q2 := by
      rw [← h1, ← h4, Int.mul_add, Int.mul_comm p r2, ← Int.mul_assoc]; omega
    have b1 := Int.mul_nonneg h5 (Int.le_of_lt hp)
    have b2 : r2 * p ≤ 255 * p := Int.mul_le_mul_of_nonneg_right (by omega) (by omega)
    rw [e, Int.add_mul_emod_self_left]
    exact (Int.emod_eq_of_lt (by omega) (by omega)).symm
end Go.Proofs.Ytgaibighfmcgoaa.Hand
