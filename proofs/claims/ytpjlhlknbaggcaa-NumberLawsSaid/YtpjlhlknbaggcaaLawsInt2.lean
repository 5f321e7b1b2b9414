/- The walks of two more statements on whole numbers: each returns true. -/
import Derived.Test.YtpjlhlknbaggcaaLawsInt
namespace Go.Proofs.Ytpjlhlknbaggcaa.Hand
open Go.RowKit Go.Proofs.YtpjlhlknbaggcaaW.PrintWords Flt Ieee PNumA
set_option linter.unusedVariables false
set_option linter.unusedSimpArgs false
theorem add_k (a b s : Int) (t : Bool) (ha : Small a) (hb : Small b) (h : addV a b = (s, t)) : ∀ w, Calls Try.prog 13 #[.int .i64 a, .int .i64 b] w fun e w' => e = .returned (.tuple #[.int .i64 s, .bool t]) ∧ Drawn0 w w' := fun w => by
  have := add_c a b ha hb w
  rwa [h] at this
theorem mul_k (a b s : Int) (t : Bool) (ha : Small a) (hb : Small b) (h : mulV a b = (s, t)) : ∀ w, Calls Try.prog 15 #[.int .i64 a, .int .i64 b] w fun e w' => e = .returned (.tuple #[.int .i64 s, .bool t]) ∧ Drawn0 w w' := fun w => by
  have := mul_c a b ha hb w
  rwa [h] at this
theorem addV_yes {a b : Int} (h : Small (a + b)) : addV a b = (a + b, true) := by unfold addV; rw [if_pos h]
theorem addV_no {a b : Int} (h : ¬ Small (a + b)) : addV a b = (0, false) := by unfold addV; rw [if_neg h]
theorem mulV_yes {a b : Int} (h : Small (a * b)) : mulV a b = (a * b, true) := by unfold mulV; rw [if_pos h]
theorem mulV_no {a b : Int} (h : ¬ Small (a * b)) : mulV a b = (0, false) := by unfold mulV; rw [if_neg h]
theorem mask63 (n : Int) : Go.bits .and .i64 n 9223372036854775807 = n % 9223372036854775808 := by
  have h127 : (BitVec.ofInt 64 9223372036854775807).toNat = 2 ^ 63 - 1 := by decide
  have key : (BitVec.ofInt 64 n &&& BitVec.ofInt 64 9223372036854775807).toNat = (n % ((2 ^ 64 : Nat) : Int)).toNat % 2 ^ 63 := by
    rw [BitVec.toNat_and, BitVec.toNat_ofInt, h127, Nat.and_two_pow_sub_one_eq_mod]
  show IntKind.i64.wrap ((BitVec.ofInt 64 n &&& BitVec.ofInt 64 9223372036854775807).toNat : Nat) = _
  rw [key, IntKind.wrap_i64]
  omega
set_option maxHeartbeats 2000000 in
theorem bounds_walk (a : Int) (w : World) : Calls Try.prog 9 #[.int .i64 a] w fun e w' => e = .returned (.bool true) ∧ Below w.heap.size w w' := by
  obtain ⟨N, hN, n0, n1⟩ : ∃ N : Int, Go.bits .and .i64 a 9223372036854775807 = N ∧ 0 ≤ N ∧ N ≤ 9223372036854775807 := ⟨_, mask63 a, by omega, by omega⟩
  have K3 := Lib.hid (add_k (9223372036854775807 - N) N 9223372036854775807 true (by unfold Small; omega) (by unfold Small; omega) (by rw [addV_yes (by unfold Small; omega)]; congr 1; omega))
  have K4 := Lib.hid (mul_k N (-1) (-N) true (by unfold Small; omega) (by unfold Small; omega) (by rw [mulV_yes (by unfold Small; omega)]; congr 1; omega))
  by_cases h0 : N = 0
  · subst h0
    have K1 := Lib.hid (add_k 9223372036854775807 0 9223372036854775807 true (by unfold Small; omega) (by unfold Small; omega) (by decide))
    have K2 := Lib.hid (add_k (-9223372036854775808) 0 (-9223372036854775808) true (by unfold Small; omega) (by unfold Small; omega) (by decide))
    have K3 := Lib.hid (add_k 9223372036854775807 0 9223372036854775807 true (by unfold Small; omega) (by unfold Small; omega) (by decide))
    have K4 := Lib.hid (mul_k 0 (-1) 0 true (by unfold Small; omega) (by unfold Small; omega) (by decide))
    have K5 := Lib.hid (mul_k (-9223372036854775808) 0 0 true (by unfold Small; omega) (by unfold Small; omega) (by decide))
    (go_enter Try.func9, Try.ntmps9; go_wp2_with (first | (go_at_call 12; (with_reducible refine (shown_c _).mono ?_); rintro e w1 ⟨rfl, ⟨n1, rfl⟩⟩) | (go_at_call 13; (with_reducible refine (K1.out _).mono ?_); rintro e w1 ⟨rfl, ⟨n1, rfl⟩⟩) | (go_at_call 13; (with_reducible refine (K2.out _).mono ?_); rintro e w1 ⟨rfl, ⟨n1, rfl⟩⟩) | (go_at_call 13; (with_reducible refine (K3.out _).mono ?_); rintro e w1 ⟨rfl, ⟨n1, rfl⟩⟩) | (go_at_call 15; (with_reducible refine (K4.out _).mono ?_); rintro e w1 ⟨rfl, ⟨n1, rfl⟩⟩) | (go_at_call 15; (with_reducible refine (K5.out _).mono ?_); rintro e w1 ⟨rfl, ⟨n1, rfl⟩⟩)); go_ret; exact ⟨rfl, (Drawn0.mk ⟨_, rfl⟩).below⟩)
  · have K1 := Lib.hid (add_k 9223372036854775807 N 0 false (by unfold Small; omega) (by unfold Small; omega) (addV_no (by unfold Small; omega)))
    have K2 := Lib.hid (add_k (-9223372036854775808) (-N) 0 false (by unfold Small; omega) (by unfold Small; omega) (addV_no (by unfold Small; omega)))
    have z0 : (N == 0) = false := beq_eq_false_iff_ne.mpr h0
    by_cases h1 : N < 2
    · have z1 : decide (N < 2) = true := decide_eq_true h1
      have K5 := Lib.hid (mul_k (-9223372036854775808) N (-9223372036854775808 * N) true (by unfold Small; omega) (by unfold Small; omega) (mulV_yes (by unfold Small; omega)))
      clear h1
      (go_enter Try.func9, Try.ntmps9; go_wp2_with (first | (go_at_call 12; (with_reducible refine (shown_c _).mono ?_); rintro e w1 ⟨rfl, ⟨n1, rfl⟩⟩) | (go_at_call 13; (with_reducible refine (K1.out _).mono ?_); rintro e w1 ⟨rfl, ⟨n1, rfl⟩⟩) | (go_at_call 13; (with_reducible refine (K2.out _).mono ?_); rintro e w1 ⟨rfl, ⟨n1, rfl⟩⟩) | (go_at_call 13; (with_reducible refine (K3.out _).mono ?_); rintro e w1 ⟨rfl, ⟨n1, rfl⟩⟩) | (go_at_call 15; (with_reducible refine (K4.out _).mono ?_); rintro e w1 ⟨rfl, ⟨n1, rfl⟩⟩) | (go_at_call 15; (with_reducible refine (K5.out _).mono ?_); rintro e w1 ⟨rfl, ⟨n1, rfl⟩⟩)); go_ret; exact ⟨rfl, (Drawn0.mk ⟨_, rfl⟩).below⟩)
    · have z1 : decide (N < 2) = false := decide_eq_false h1
      have K5 := Lib.hid (mul_k (-9223372036854775808) N 0 false (by unfold Small; omega) (by unfold Small; omega) (mulV_no (by unfold Small; omega)))
      clear h1
      (go_enter Try.func9, Try.ntmps9; go_wp2_with (first | (go_at_call 12; (with_reducible refine (shown_c _).mono ?_); rintro e w1 ⟨rfl, ⟨n1, rfl⟩⟩) | (go_at_call 13; (with_reducible refine (K1.out _).mono ?_); rintro e w1 ⟨rfl, ⟨n1, rfl⟩⟩) | (go_at_call 13; (with_reducible refine (K2.out _).mono ?_); rintro e w1 ⟨rfl, ⟨n1, rfl⟩⟩) | (go_at_call 13; (with_reducible refine (K3.out _).mono ?_); rintro e w1 ⟨rfl, ⟨n1, rfl⟩⟩) | (go_at_call 15; (with_reducible refine (K4.out _).mono ?_); rintro e w1 ⟨rfl, ⟨n1, rfl⟩⟩) | (go_at_call 15; (with_reducible refine (K5.out _).mono ?_); rintro e w1 ⟨rfl, ⟨n1, rfl⟩⟩)); go_ret; exact ⟨rfl, (Drawn0.mk ⟨_, rfl⟩).below⟩)
theorem bounds_row (a : Int) (w : World) (ha : (Lit.int .i64 a).wf = true) : Calls Try.prog 9 #[.int .i64 a] w fun e w' => e = .returned (.bool true) ∧ Below w.heap.size w w' := bounds_walk a w
theorem mul_bd30 (a b : Int) (h1 : -1073741824 ≤ a) (h2 : a ≤ 1073741824) (h3 : -2147483648 ≤ b) (h4 : b ≤ 2147483648) : -2305843009213693952 ≤ a * b ∧ a * b ≤ 2305843009213693952 := by
  have e := Int.natAbs_mul a b
  have h5 : a.natAbs * b.natAbs ≤ 1073741824 * 2147483648 := Nat.mul_le_mul (by omega) (by omega)
  generalize a * b = p at *
  generalize a.natAbs * b.natAbs = q at *
  omega
set_option maxHeartbeats 2000000 in
theorem laws_walk (a b c : Int) (w : World) (ha : Small a) (hb : Small b) (hc : Small c) : Calls Try.prog 10 #[.int .i64 a, .int .i64 b, .int .i64 c] w fun e w' => e = .returned (.bool true) ∧ Below w.heap.size w w' := by
  obtain ⟨s1, s2, hs⟩ : ∃ s t, addV a b = (s, t) := ⟨_, _, rfl⟩
  obtain ⟨m1, m2, hm⟩ : ∃ s t, mulV a b = (s, t) := ⟨_, _, rfl⟩
  have hs' : addV b a = (s1, s2) := by rw [← hs]; unfold addV; rw [Int.add_comm]
  have hm' : mulV b a = (m1, m2) := by rw [← hm]; unfold mulV; rw [Int.mul_comm]
  have K1 := Lib.hid (add_k a b s1 s2 ha hb hs)
  have K2 := Lib.hid (add_k b a s1 s2 hb ha hs')
  have K3 := Lib.hid (mul_k a b m1 m2 ha hb hm)
  have K4 := Lib.hid (mul_k b a m1 m2 hb ha hm')
  obtain ⟨A, hA, A0, A1⟩ : ∃ A : Int, Int.tmod a 1073741824 = A ∧ -1073741824 ≤ A ∧ A ≤ 1073741824 := ⟨_, rfl, by rcases tdm a 1073741824 (by omega) with h | h | h <;> omega, by rcases tdm a 1073741824 (by omega) with h | h | h <;> omega⟩
  obtain ⟨B, hB, B0, B1⟩ : ∃ A : Int, Int.tmod b 1073741824 = A ∧ -1073741824 ≤ A ∧ A ≤ 1073741824 := ⟨_, rfl, by rcases tdm b 1073741824 (by omega) with h | h | h <;> omega, by rcases tdm b 1073741824 (by omega) with h | h | h <;> omega⟩
  obtain ⟨C, hC, C0, C1⟩ : ∃ A : Int, Int.tmod c 1073741824 = A ∧ -1073741824 ≤ A ∧ A ≤ 1073741824 := ⟨_, rfl, by rcases tdm c 1073741824 (by omega) with h | h | h <;> omega, by rcases tdm c 1073741824 (by omega) with h | h | h <;> omega⟩
  have p1 := mul_bd30 A B A0 A1 (by omega) (by omega)
  have p2 := mul_bd30 A C A0 A1 (by omega) (by omega)
  have p3 := mul_bd30 A (B + C) A0 A1 (by omega) (by omega)
  have e := Int.mul_add A B C
  have K5 := Lib.hid (add_k B C (B + C) true (by unfold Small; omega) (by unfold Small; omega) (addV_yes (by unfold Small; omega)))
  have K6 := Lib.hid (mul_k A (B + C) (A * B + A * C) true (by unfold Small; omega) (by unfold Small; omega) (by rw [mulV_yes (by unfold Small; omega), e]))
  have K7 := Lib.hid (mul_k A B (A * B) true (by unfold Small; omega) (by unfold Small; omega) (mulV_yes (by unfold Small; omega)))
  have K8 := Lib.hid (mul_k A C (A * C) true (by unfold Small; omega) (by unfold Small; omega) (mulV_yes (by unfold Small; omega)))
  rw [e] at p3
  clear e hs hm hs' hm' ha hb hc
  generalize A * B = X at *
  generalize A * C = Y at *
  obtain ⟨p1a, p1b⟩ := p1
  obtain ⟨p2a, p2b⟩ := p2
  obtain ⟨p3a, p3b⟩ := p3
  (go_enter Try.func10, Try.ntmps10; go_wp2_with (first | (go_at_call 12; (with_reducible refine (shown_c _).mono ?_); rintro e w1 ⟨rfl, ⟨n1, rfl⟩⟩) | (go_at_call 13; (with_reducible refine (K1.out _).mono ?_); rintro e w1 ⟨rfl, ⟨n1, rfl⟩⟩) | (go_at_call 13; (with_reducible refine (K2.out _).mono ?_); rintro e w1 ⟨rfl, ⟨n1, rfl⟩⟩) | (go_at_call 13; (with_reducible refine (K5.out _).mono ?_); rintro e w1 ⟨rfl, ⟨n1, rfl⟩⟩) | (go_at_call 15; (with_reducible refine (K3.out _).mono ?_); rintro e w1 ⟨rfl, ⟨n1, rfl⟩⟩) | (go_at_call 15; (with_reducible refine (K4.out _).mono ?_); rintro e w1 ⟨rfl, ⟨n1, rfl⟩⟩) | (go_at_call 15; (with_reducible refine (K6.out _).mono ?_); rintro e w1 ⟨rfl, ⟨n1, rfl⟩⟩) | (go_at_call 15; (with_reducible refine (K7.out _).mono ?_); rintro e w1 ⟨rfl, ⟨n1, rfl⟩⟩) | (go_at_call 15; (with_reducible refine (K8.out _).mono ?_); rintro e w1 ⟨rfl, ⟨n1, rfl⟩⟩)); go_ret; exact ⟨rfl, (Drawn0.mk ⟨_, rfl⟩).below⟩)
theorem laws_row (a b c : Int) (w : World) (ha : (Lit.int .i64 a).wf = true) (hb : (Lit.int .i64 b).wf = true) (hc : (Lit.int .i64 c).wf = true) : Calls Try.prog 10 #[.int .i64 a, .int .i64 b, .int .i64 c] w fun e w' => e = .returned (.bool true) ∧ Below w.heap.size w w' := laws_walk a b c w (small_of ha) (small_of hb) (small_of hc)
end Go.Proofs.Ytpjlhlknbaggcaa.Hand
