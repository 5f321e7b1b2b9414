/- The plain laws of the octets' statements. -/
import Derived.Test.YtgggjfclhjpboaaFacts
namespace Go.Proofs.Ytgggjfclhjpboaa.Pure
open Go.RowKit Hand POctA POctB Go.Proofs.YtgggjfclhjpboaaW.PrintWords
theorem OctetsBack : longcaselaw04_OctetsBack.Pure := by
  intro l0 l1 n a _ h0 w0 _ h1 w1 hn _
  have hnb := bounds_i64 hn
  have B0 := bytes_wf w0
  have B1 := bytes_wf w1
  refine ⟨20, ?_⟩
  unfold longcaselaw04_OctetsBack.f longcaselaw04_shown.f
  have hm0 : ∃ p : Nat, mn (l0.length : Int) 50 = p ∧ p ≤ 50 ∧ p ≤ l0.length := ⟨min l0.length 50, by unfold mn; split <;> omega, by omega, by omega⟩
  have hm1 : ∃ p : Nat, mn (l1.length : Int) 50 = p ∧ p ≤ 50 ∧ p ≤ l1.length := ⟨min l1.length 50, by unfold mn; split <;> omega, by omega, by omega⟩
  obtain ⟨p, ep, p1, p2⟩ := hm0
  obtain ⟨q, eq, q1, q2⟩ := hm1
  obtain ⟨m, em, m1, m2⟩ : ∃ m : Nat, wrap64 (1 + Go.bits .and .i64 a 7) = m ∧ 1 ≤ m ∧ m ≤ 8 := by
    rw [and7, w64 (by omega) (by omega)]
    exact ⟨(1 + a % 8).toNat, by omega, by omega, by omega⟩
  rw [ep, eq, em]
  simp only [Option.bind_some, Int.toNat_natCast]
  rw [if_pos (by omega), if_pos (by omega), if_pos (by omega), if_pos (by omega)]
  rw [put_f 20 (by omega) _ (by simp; omega) m m2]
  simp only [Option.bind_some]
  have hlp : (l0.take p).length = p := by rw [List.length_take]; omega
  have hlq : (l1.take q).length = q := by rw [List.length_take]; omega
  have hlen : (l0.take p ++ be m (IntKind.u64.wrap n) ++ l1.take q).length = p + m + q := by simp [be_len, hlp, hlq]; omega
  rw [if_pos (by simp [be_len, hlp, hlq]; omega), hlp]
  have hcut : ((l0.take p ++ be m (IntKind.u64.wrap n) ++ l1.take q).take (p + m)).drop p = be m (IntKind.u64.wrap n) := by
    have h1 : (l0.take p ++ be m (IntKind.u64.wrap n)).length = p + m := by simp [be_len, hlp]
    rw [List.take_append_of_le_length (by omega), ← h1, List.take_length]
    conv => lhs; arg 1; rw [← hlp]
    rw [List.drop_left]
  rw [int_f _ (((B0.take p).append (be_bytes m _)).append (B1.take q)) p m m1 m2 (by omega), hcut, bval_be, sgn_back' m m1 m2]
  have e1 := shift_w m m1 m2
  rw [Option.bind_some, e1]
  dsimp only
  rw [if_pos (show (0 : Int) ≤ 64 - 8 * (m : Int) by omega)]
  generalize shr .i64 (shl .i64 n (64 - 8 * (m : Int))) (64 - 8 * (m : Int)) = V
  rw [if_pos trivial, if_pos (rfl : true = true), if_pos (rfl : V = V)]
  congr 1
  rw [beq_iff_eq, hlen, hlq, w64 (n := (p : Int) + m) (by omega) (by omega), w64 (by omega) (by omega)]
  omega
theorem two_pow (j : Nat) (hj : j ≤ 7) : (2 : Int) ^ (8 * j) = 256 ^ j := by
  have hc : j = 0 ∨ j = 1 ∨ j = 2 ∨ j = 3 ∨ j = 4 ∨ j = 5 ∨ j = 6 ∨ j = 7 := by omega
  rcases hc with h | h | h | h | h | h | h | h <;> subst h <;> decide +kernel
theorem shl_pow (x : Int) (j : Nat) (hj : j ≤ 7) : shl .u64 x (8 * (j : Int)) = IntKind.u64.wrap (x * 256 ^ j) := by
  have hb : IntKind.u64.bits = 64 := rfl
  have e : min (8 * (j : Int)).toNat 64 = 8 * j := by omega
  unfold shl
  rw [hb, e, two_pow j hj]
theorem parts_val (n : Int) (p : Nat) : bval ((be 8 n).take p) * 256 ^ (8 - p) + bval ((be 8 n).drop p) = n % 18446744073709551616 := by
  have h1 := bval_append ((be 8 n).take p) ((be 8 n).drop p)
  rw [List.take_append_drop, bval_be, List.length_drop, be_len] at h1
  have h2 : (256 : Int) ^ 8 = 18446744073709551616 := by decide +kernel
  rw [h2] at h1
  exact h1.symm
theorem OctetsParts : longcaselaw04_OctetsParts.Pure := by
  intro n a hn _
  have hnb := bounds_u64 hn
  refine ⟨20, ?_⟩
  unfold longcaselaw04_OctetsParts.f longcaselaw04_shown.f
  have hp : octets_Put.f 20 [] 8 n = some (be 8 n) := put_f 20 (by omega) [] (by simp) 8 (by omega) n
  have hB := be_bytes 8 n
  have hL := be_len 8 n
  obtain ⟨p, ep, p1, p2⟩ : ∃ p : Nat, wrap64 (1 + (Int.tmod (Go.bits .and .i64 a 65535) 7)) = p ∧ 1 ≤ p ∧ p ≤ 7 := by
    rw [and_mask, Int.tmod_eq_emod_of_nonneg (by omega), w64 (by omega) (by omega)]
    exact ⟨(1 + a % 65536 % 7).toNat, by omega, by omega, by omega⟩
  have e8 : wrap64 (8 - (p : Int)) = ((8 - p : Nat) : Int) := by rw [w64 (by omega) (by omega)]; omega
  have u1 : octets_Uint.f (be 8 n) 0 p = some (bval ((be 8 n).take p), true) := by
    have := uint_f (be 8 n) hB 0 p p1 (by omega) (by omega)
    simpa using this
  have u2 : octets_Uint.f (be 8 n) p ((8 - p : Nat) : Int) = some (bval ((be 8 n).drop p), true) := by
    have := uint_f (be 8 n) hB p (8 - p) (by omega) (by omega) (by omega)
    have e : p + (8 - p) = (be 8 n).length := by omega
    rw [e, List.take_length] at this
    exact this
  have u3 : octets_Uint.f (be 8 n) 0 8 = some (n, true) := by
    have := uint_f (be 8 n) hB 0 8 (by omega) (by omega) (by omega)
    have e : 0 + 8 = (be 8 n).length := by omega
    rw [e, List.take_length, List.drop_zero, bval_be] at this
    have h2 : (256 : Int) ^ 8 = 18446744073709551616 := by decide +kernel
    rw [h2, Int.emod_eq_of_lt hnb.1 (by omega)] at this
    exact this
  have hv := parts_val n p
  have b1 := bval_bd _ (hB.take p)
  have b2 := bval_bd _ (hB.drop p)
  have sh : IntKind.u64.wrap (wrap64 (8 * ((8 - p : Nat) : Int))) = 8 * ((8 - p : Nat) : Int) := by
    rw [w64 (by omega) (by omega), u64_w]; omega
  have hs : IntKind.u64.wrap (shl .u64 (bval ((be 8 n).take p)) (8 * ((8 - p : Nat) : Int)) + bval ((be 8 n).drop p)) = n := by
    have key : shl .u64 (bval ((be 8 n).take p)) (8 * ((8 - p : Nat) : Int)) = IntKind.u64.wrap (bval ((be 8 n).take p) * 256 ^ (8 - p)) := shl_pow _ (8 - p) (by omega)
    rw [key, u64_w, u64_w]
    generalize bval ((be 8 n).take p) * 256 ^ (8 - p) = X at *
    generalize bval ((be 8 n).drop p) = Y at *
    omega
  have h8 : ((be 8 n).length : Int) = 8 := by rw [hL]; rfl
  rw [Option.bind_some, hp, Option.bind_some, if_pos h8, ep, e8, u1, Option.bind_some, u2, Option.bind_some, u3, Option.bind_some]
  dsimp only
  rw [sh, hs, beq_self_eq_true, if_pos (show (0 : Int) ≤ 8 * ((8 - p : Nat) : Int) by omega)]
  repeat (first | rw [if_pos trivial] | rw [if_pos (rfl : true = true)] | rw [if_pos (rfl : n = n)])
theorem OctetsSigns : longcaselaw04_OctetsSigns.Pure := by
  intro l _ hl0 w0
  have B0 := bytes_wf w0
  refine ⟨20, ?_⟩
  unfold longcaselaw04_OctetsSigns.f longcaselaw04_shown.f
  obtain ⟨m, em, m1, m2, m3⟩ : ∃ p : Nat, mn (l.length : Int) 8 = p ∧ p ≤ 8 ∧ p ≤ l.length ∧ (p = 0 → l.length = 0) := ⟨min l.length 8, by unfold mn; split <;> omega, by omega, by omega, by omega⟩
  rw [em]
  simp only [Option.bind_some]
  by_cases h0 : (m : Int) = 0
  · rw [if_pos h0]
  · rw [if_neg h0]
    have u1 : octets_Uint.f l 0 m = some (bval (l.take m), true) := by
      have := uint_f l B0 0 m (by omega) m1 (by omega)
      simpa using this
    have i1 : octets_Int.f l 0 m = some (sgn m (bval (l.take m)), true) := by
      have := int_f l B0 0 m (by omega) m1 (by omega)
      simpa using this
    have hb := bval_bd _ (B0.take m)
    have hlen : (l.take m).length = m := by rw [List.length_take]; omega
    rw [hlen] at hb
    have hsv := sgn_val m (by omega) m1 _ hb.1 hb.2
    -- the first byte tells the half
    obtain ⟨x, r, hx⟩ : ∃ x r, l = x :: r := by
      cases l with
      | nil => simp at m2; omega
      | cons x r => exact ⟨x, r, rfl⟩
    have hrd : rd l 0 = x := by rw [hx]; rfl
    have hxb := B0 x (by rw [hx]; simp)
    have hfirst : (127 < x) ↔ 256 ^ m ≤ 2 * bval (l.take m) := by
      obtain ⟨j, rfl⟩ : ∃ j, m = j + 1 := ⟨m - 1, by omega⟩
      have hB2 : Bytes (r.take j) := fun y hy => B0 y (by rw [hx]; exact List.mem_cons_of_mem _ (List.mem_of_mem_take hy))
      have hl2 : (r.take j).length = j := by rw [hx] at m2; rw [List.length_take]; simp at m2; omega
      have hb2 := bval_bd _ hB2
      have hp := pow_pos' j
      rw [hx, List.take_succ_cons, bval_cons, hl2, Int.pow_succ]
      rw [hl2] at hb2
      generalize (256 : Int) ^ j = P at *
      constructor
      · intro h
        have : 128 * P ≤ x * P := Int.mul_le_mul_of_nonneg_right (by omega) (by omega)
        omega
      · intro h
        by_cases hc : x ≤ 127
        · have : x * P ≤ 127 * P := Int.mul_le_mul_of_nonneg_right (by omega) (by omega)
          omega
        · omega
    rw [u1, i1, hsv]
    simp only [Option.bind_some]
    rw [if_pos trivial, if_pos trivial, if_pos (by rw [hx]; simp), hrd]
    generalize hV : bval (l.take m) = V at *
    have hdec : (decide (x > 127) != decide ((if 256 ^ m ≤ 2 * V then V - 256 ^ m else V) < 0)) = false := by
      rw [bne_eq_false_iff_eq, Bool.eq_iff_iff]
      simp only [decide_eq_true_eq]
      rw [gt_iff_lt, hfirst]
      split <;> omega
    rw [hdec]
    simp only [longcaselaw04_OctetsSigns.j0]
    rw [if_neg (by simp)]
    by_cases h8 : (m : Int) = 8
    · have hm8 : m = 8 := by omega
      subst hm8
      have h2 : (256 : Int) ^ 8 = 18446744073709551616 := by decide +kernel
      rw [if_pos h8, if_pos trivial]
      congr 1
      rw [beq_iff_eq, u64_w]
      rw [h2] at hb ⊢
      split <;> omega
    · rw [if_neg h8]
      have hm7 : m ≤ 7 := by omega
      have hsh : IntKind.u64.wrap (wrap64 (8 * (m : Int))) = 8 * (m : Int) := by rw [w64 (by omega) (by omega), u64_w]; omega
      have hpow : shl .i64 1 (8 * (m : Int)) = 256 ^ m := by
        have hc : m = 1 ∨ m = 2 ∨ m = 3 ∨ m = 4 ∨ m = 5 ∨ m = 6 ∨ m = 7 := by omega
        rcases hc with h | h | h | h | h | h | h <;> subst h <;> decide +kernel
      have h7 := pow_mono' hm7
      have h77 : (256 : Int) ^ 7 = 72057594037927936 := by decide +kernel
      rw [h77] at h7
      rw [hsh, hpow, if_pos (by omega), if_pos (by rw [hx]; simp), hrd]
      by_cases hxx : x > 127
      · rw [if_pos hxx, if_pos trivial]
        have := hfirst.1 hxx
        rw [if_pos this]
        congr 1
        rw [beq_iff_eq]
        congr 1
        omega
      · rw [if_neg hxx, if_pos trivial]
        have : ¬ 256 ^ m ≤ 2 * V := fun h => hxx (hfirst.2 h)
        rw [if_neg this]
        congr 1
        rw [beq_iff_eq, w64 (by omega) (by omega)]
end Go.Proofs.Ytgggjfclhjpboaa.Pure
