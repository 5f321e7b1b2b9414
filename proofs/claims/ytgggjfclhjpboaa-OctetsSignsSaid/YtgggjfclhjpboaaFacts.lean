/- What the octets' functions come to, in closed form; the plain laws of the octets' statements. -/
import Derived.Test.YtgggjfclhjpboaaPOctBx
import Derived.Test.YtgggjfclhjpboaaNum
import Derived.OpenShut
namespace Go.Proofs.Ytgggjfclhjpboaa.Pure
open Go.RowKit Hand POctA POctB Go.Proofs.YtgggjfclhjpboaaW.PrintWords
theorem w64 {n : Int} (h1 : -9223372036854775808 ≤ n) (h2 : n ≤ 9223372036854775807) : wrap64 n = n := by
  unfold wrap64
  omega
theorem shr_pow (n : Int) (j : Nat) (hj : j ≤ 7) : shr .u64 n (8 * (j : Int)) = n / 256 ^ j := by
  have hc : j = 0 ∨ j = 1 ∨ j = 2 ∨ j = 3 ∨ j = 4 ∨ j = 5 ∨ j = 6 ∨ j = 7 := by omega
  rcases hc with h | h | h | h | h | h | h | h <;> subst h <;> rfl
theorem put_l (n : Int) (m : Nat) : ∀ (k : Nat) (xs : List Int), m ≤ 8 → m < k → xs.length + m < 140737488355328 → octets_Put.l0 k n xs ((m : Int) - 1) = some (xs ++ be m n) := by
  induction m with
  | zero =>
    intro k xs _ hk _
    obtain ⟨k, rfl⟩ : ∃ j, k = j + 1 := ⟨k - 1, by omega⟩
    simp only [octets_Put.l0]
    rw [if_neg (by omega)]
    simp [be]
  | succ m ih =>
    intro k xs hm hk hl
    obtain ⟨k, rfl⟩ : ∃ j, k = j + 1 := ⟨k - 1, by omega⟩
    have e : ((m + 1 : Nat) : Int) - 1 = m := by omega
    rw [e]
    simp only [octets_Put.l0]
    rw [if_pos (by omega), w64 (n := 8 * (m : Int)) (by omega) (by omega), if_pos (by omega), if_pos (by omega), w64 (n := (m : Int) - 1) (by omega) (by omega), shr_pow n m (by omega),
      ih k _ (by omega) (by omega) (by simp; omega)]
    simp [be]
theorem put_f (k : Nat) (hk : 10 ≤ k) (l0 : List Int) (hl : l0.length < 140737488350000) (m : Nat) (hm : m ≤ 8) (n : Int) : octets_Put.f k l0 m n = some (l0 ++ be m n) := by
  unfold octets_Put.f slices_Clone_byte_byte.f
  rw [if_pos (by omega)]
  simp only [Option.bind_some]
  have e : mn (mx (m : Int) 0) 8 - 1 = (m : Int) - 1 := by unfold mn mx; repeat' split <;> omega
  rw [e, put_l n m k l0 hm (by omega) (by omega)]
theorem uint_f (l0 : List Int) (hb : Bytes l0) (a m : Nat) (h1 : 1 ≤ m) (h2 : m ≤ 8) (h3 : a + m ≤ l0.length) : octets_Uint.f l0 a m = some (bval ((l0.take (a + m)).drop a), true) := by
  unfold octets_Uint.f
  rw [if_pos (by omega)]
  simp only [Int.toNat_natCast]
  rw [uval_bval _ ((hb.take _).drop _) (by simp; omega)]
/-- a number of so many bytes, with its sign -/
def sgn (m : Nat) (u : Int) : Int := shr .i64 (wrap64 (shl .u64 u (wrap64 (8 * (wrap64 (8 - (m : Int))))))) (wrap64 (8 * (wrap64 (8 - (m : Int)))))
theorem int_f (l0 : List Int) (hb : Bytes l0) (a m : Nat) (h1 : 1 ≤ m) (h2 : m ≤ 8) (h3 : a + m ≤ l0.length) : octets_Int.f l0 a m = some (sgn m (bval ((l0.take (a + m)).drop a)), true) := by
  unfold octets_Int.f
  rw [uint_f l0 hb a m h1 h2 h3]
  simp only [Option.bind_some, if_true]
  rw [if_pos (by rw [w64 (n := 8 - (m : Int)) (by omega) (by omega), w64 (by omega) (by omega)]; omega)]
  rfl
theorem and7 (n : Int) : Go.bits .and .i64 n 7 = n % 8 := by
  have h127 : (BitVec.ofInt 64 7).toNat = 2 ^ 3 - 1 := by decide
  have key : (BitVec.ofInt 64 n &&& BitVec.ofInt 64 7).toNat = (n % ((2 ^ 64 : Nat) : Int)).toNat % 2 ^ 3 := by
    rw [BitVec.toNat_and, BitVec.toNat_ofInt, h127, Nat.and_two_pow_sub_one_eq_mod]
  show IntKind.i64.wrap ((BitVec.ofInt 64 n &&& BitVec.ofInt 64 7).toNat : Nat) = n % 8
  rw [key, IntKind.wrap_i64]
  omega
theorem and_mask (n : Int) : Go.bits .and .i64 n 65535 = n % 65536 := by
  have h127 : (BitVec.ofInt 64 65535).toNat = 2 ^ 16 - 1 := by decide
  have key : (BitVec.ofInt 64 n &&& BitVec.ofInt 64 65535).toNat = (n % ((2 ^ 64 : Nat) : Int)).toNat % 2 ^ 16 := by
    rw [BitVec.toNat_and, BitVec.toNat_ofInt, h127, Nat.and_two_pow_sub_one_eq_mod]
  show IntKind.i64.wrap ((BitVec.ofInt 64 n &&& BitVec.ofInt 64 65535).toNat : Nat) = n % 65536
  rw [key, IntKind.wrap_i64]
  omega
theorem bytes_wf {l : List Int} (h : ∀ x ∈ l, (Lit.int .u8 x).wf = true) : Bytes l := fun x hx => by
  have := bounds_u8 (h x hx); omega
theorem u64_w (n : Int) : IntKind.u64.wrap n = n % 18446744073709551616 := IntKind.wrap_u64 n
theorem sgn_eq (m : Nat) (h1 : 1 ≤ m) (h2 : m ≤ 8) (u : Int) : sgn m u = wrap64 (u * 2 ^ (64 - 8 * m) % 18446744073709551616) / 2 ^ (64 - 8 * m) := by
  have hc : m = 1 ∨ m = 2 ∨ m = 3 ∨ m = 4 ∨ m = 5 ∨ m = 6 ∨ m = 7 ∨ m = 8 := by omega
  have key : ∀ (e1 e2 : Nat), e1 = 64 - 8 * m → e2 = 64 - 8 * m → wrap64 (IntKind.u64.wrap (u * 2 ^ e1)) / 2 ^ e2 = wrap64 (u * 2 ^ (64 - 8 * m) % 18446744073709551616) / 2 ^ (64 - 8 * m) := by
    intro e1 e2 h1 h2
    subst h1 h2
    rw [u64_w]
  exact key _ _ (by rcases hc with h | h | h | h | h | h | h | h <;> subst h <;> decide +kernel) (by rcases hc with h | h | h | h | h | h | h | h <;> subst h <;> decide +kernel)
theorem shs_eq (m : Nat) (h1 : 1 ≤ m) (h2 : m ≤ 8) (n : Int) : shr .i64 (shl .i64 n (64 - 8 * (m : Int))) (64 - 8 * (m : Int)) = wrap64 (n * 2 ^ (64 - 8 * m)) / 2 ^ (64 - 8 * m) := by
  have e : min (64 - 8 * (m : Int)).toNat 64 = 64 - 8 * m := by omega
  unfold shr shl
  have hb : IntKind.i64.bits = 64 := rfl
  rw [hb, e]
  congr 1
  unfold wrap64
  exact IntKind.wrap_i64 _
/-- the sign, size by size -/
theorem sv1 (u : Int) (h3 : 0 ≤ u) (h4 : u < 256) : wrap64 (u * 72057594037927936 % 18446744073709551616) / 72057594037927936 = if 256 ≤ 2 * u then u - 256 else u := by
  unfold wrap64
  split <;> omega
theorem sb1 (n : Int) : wrap64 ((n % 18446744073709551616) % 256 * 72057594037927936 % 18446744073709551616) / 72057594037927936 = wrap64 (n * 72057594037927936) / 72057594037927936 := by
  unfold wrap64
  omega
theorem p1 : (2 : Int) ^ (64 - 8 * 1) = 72057594037927936 := by decide +kernel
theorem q1 : (256 : Int) ^ 1 = 256 := by decide +kernel
theorem sv2 (u : Int) (h3 : 0 ≤ u) (h4 : u < 65536) : wrap64 (u * 281474976710656 % 18446744073709551616) / 281474976710656 = if 65536 ≤ 2 * u then u - 65536 else u := by
  unfold wrap64
  split <;> omega
theorem sb2 (n : Int) : wrap64 ((n % 18446744073709551616) % 65536 * 281474976710656 % 18446744073709551616) / 281474976710656 = wrap64 (n * 281474976710656) / 281474976710656 := by
  unfold wrap64
  omega
theorem p2 : (2 : Int) ^ (64 - 8 * 2) = 281474976710656 := by decide +kernel
theorem q2 : (256 : Int) ^ 2 = 65536 := by decide +kernel
theorem sv3 (u : Int) (h3 : 0 ≤ u) (h4 : u < 16777216) : wrap64 (u * 1099511627776 % 18446744073709551616) / 1099511627776 = if 16777216 ≤ 2 * u then u - 16777216 else u := by
  unfold wrap64
  split <;> omega
theorem sb3 (n : Int) : wrap64 ((n % 18446744073709551616) % 16777216 * 1099511627776 % 18446744073709551616) / 1099511627776 = wrap64 (n * 1099511627776) / 1099511627776 := by
  unfold wrap64
  omega
theorem p3 : (2 : Int) ^ (64 - 8 * 3) = 1099511627776 := by decide +kernel
theorem q3 : (256 : Int) ^ 3 = 16777216 := by decide +kernel
theorem sv4 (u : Int) (h3 : 0 ≤ u) (h4 : u < 4294967296) : wrap64 (u * 4294967296 % 18446744073709551616) / 4294967296 = if 4294967296 ≤ 2 * u then u - 4294967296 else u := by
  unfold wrap64
  split <;> omega
theorem sb4 (n : Int) : wrap64 ((n % 18446744073709551616) % 4294967296 * 4294967296 % 18446744073709551616) / 4294967296 = wrap64 (n * 4294967296) / 4294967296 := by
  unfold wrap64
  omega
theorem p4 : (2 : Int) ^ (64 - 8 * 4) = 4294967296 := by decide +kernel
theorem q4 : (256 : Int) ^ 4 = 4294967296 := by decide +kernel
theorem sv5 (u : Int) (h3 : 0 ≤ u) (h4 : u < 1099511627776) : wrap64 (u * 16777216 % 18446744073709551616) / 16777216 = if 1099511627776 ≤ 2 * u then u - 1099511627776 else u := by
  unfold wrap64
  split <;> omega
theorem sb5 (n : Int) : wrap64 ((n % 18446744073709551616) % 1099511627776 * 16777216 % 18446744073709551616) / 16777216 = wrap64 (n * 16777216) / 16777216 := by
  unfold wrap64
  omega
theorem p5 : (2 : Int) ^ (64 - 8 * 5) = 16777216 := by decide +kernel
theorem q5 : (256 : Int) ^ 5 = 1099511627776 := by decide +kernel
theorem sv6 (u : Int) (h3 : 0 ≤ u) (h4 : u < 281474976710656) : wrap64 (u * 65536 % 18446744073709551616) / 65536 = if 281474976710656 ≤ 2 * u then u - 281474976710656 else u := by
  unfold wrap64
  split <;> omega
theorem sb6 (n : Int) : wrap64 ((n % 18446744073709551616) % 281474976710656 * 65536 % 18446744073709551616) / 65536 = wrap64 (n * 65536) / 65536 := by
  unfold wrap64
  omega
theorem p6 : (2 : Int) ^ (64 - 8 * 6) = 65536 := by decide +kernel
theorem q6 : (256 : Int) ^ 6 = 281474976710656 := by decide +kernel
theorem sv7 (u : Int) (h3 : 0 ≤ u) (h4 : u < 72057594037927936) : wrap64 (u * 256 % 18446744073709551616) / 256 = if 72057594037927936 ≤ 2 * u then u - 72057594037927936 else u := by
  unfold wrap64
  split <;> omega
theorem sb7 (n : Int) : wrap64 ((n % 18446744073709551616) % 72057594037927936 * 256 % 18446744073709551616) / 256 = wrap64 (n * 256) / 256 := by
  unfold wrap64
  omega
theorem p7 : (2 : Int) ^ (64 - 8 * 7) = 256 := by decide +kernel
theorem q7 : (256 : Int) ^ 7 = 72057594037927936 := by decide +kernel
theorem sv8 (u : Int) (h3 : 0 ≤ u) (h4 : u < 18446744073709551616) : wrap64 (u * 1 % 18446744073709551616) / 1 = if 18446744073709551616 ≤ 2 * u then u - 18446744073709551616 else u := by
  unfold wrap64
  split <;> omega
theorem sb8 (n : Int) : wrap64 ((n % 18446744073709551616) % 18446744073709551616 * 1 % 18446744073709551616) / 1 = wrap64 (n * 1) / 1 := by
  unfold wrap64
  omega
theorem p8 : (2 : Int) ^ (64 - 8 * 8) = 1 := by decide +kernel
theorem q8 : (256 : Int) ^ 8 = 18446744073709551616 := by decide +kernel
theorem sgn_back (m : Nat) (h1 : 1 ≤ m) (h2 : m ≤ 8) (n : Int) : sgn m ((n % 18446744073709551616) % 256 ^ m) = shr .i64 (shl .i64 n (64 - 8 * (m : Int))) (64 - 8 * (m : Int)) := by
  have hc : m = 1 ∨ m = 2 ∨ m = 3 ∨ m = 4 ∨ m = 5 ∨ m = 6 ∨ m = 7 ∨ m = 8 := by omega
  rw [sgn_eq m h1 h2, shs_eq m h1 h2]
  rcases hc with h | h | h | h | h | h | h | h
  · subst h; rw [p1, q1]; exact sb1 n
  · subst h; rw [p2, q2]; exact sb2 n
  · subst h; rw [p3, q3]; exact sb3 n
  · subst h; rw [p4, q4]; exact sb4 n
  · subst h; rw [p5, q5]; exact sb5 n
  · subst h; rw [p6, q6]; exact sb6 n
  · subst h; rw [p7, q7]; exact sb7 n
  · subst h; rw [p8, q8]; exact sb8 n
theorem sgn_val (m : Nat) (h1 : 1 ≤ m) (h2 : m ≤ 8) (u : Int) (h3 : 0 ≤ u) (h4 : u < 256 ^ m) : sgn m u = if 256 ^ m ≤ 2 * u then u - 256 ^ m else u := by
  have hc : m = 1 ∨ m = 2 ∨ m = 3 ∨ m = 4 ∨ m = 5 ∨ m = 6 ∨ m = 7 ∨ m = 8 := by omega
  rw [sgn_eq m h1 h2]
  rcases hc with h | h | h | h | h | h | h | h
  · subst h; rw [q1] at h4; rw [p1, q1]; exact sv1 u h3 h4
  · subst h; rw [q2] at h4; rw [p2, q2]; exact sv2 u h3 h4
  · subst h; rw [q3] at h4; rw [p3, q3]; exact sv3 u h3 h4
  · subst h; rw [q4] at h4; rw [p4, q4]; exact sv4 u h3 h4
  · subst h; rw [q5] at h4; rw [p5, q5]; exact sv5 u h3 h4
  · subst h; rw [q6] at h4; rw [p6, q6]; exact sv6 u h3 h4
  · subst h; rw [q7] at h4; rw [p7, q7]; exact sv7 u h3 h4
  · subst h; rw [q8] at h4; rw [p8, q8]; exact sv8 u h3 h4
theorem sgn_back' (m : Nat) (h1 : 1 ≤ m) (h2 : m ≤ 8) (n : Int) : sgn m (IntKind.u64.wrap n % 256 ^ m) = shr .i64 (shl .i64 n (64 - 8 * (m : Int))) (64 - 8 * (m : Int)) := by
  rw [u64_w]
  exact sgn_back m h1 h2 n
theorem shift_w (m : Nat) (h1 : 1 ≤ m) (h2 : m ≤ 8) : IntKind.u64.wrap (wrap64 (64 - wrap64 (8 * (m : Int)))) = 64 - 8 * (m : Int) := by
  rw [w64 (n := 8 * (m : Int)) (by omega) (by omega), w64 (by omega) (by omega), u64_w]
  omega
end Go.Proofs.Ytgggjfclhjpboaa.Pure
