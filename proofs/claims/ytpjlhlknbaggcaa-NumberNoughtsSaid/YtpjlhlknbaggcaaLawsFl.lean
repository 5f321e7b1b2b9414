/- The walks of the statements on floats: each returns true. -/
import Derived.Test.YtpjlhlknbaggcaaShown
namespace Go.Proofs.Ytpjlhlknbaggcaa.Hand
open Go.RowKit Go.Proofs.YtpjlhlknbaggcaaW.PrintWords Flt Ieee PNumA
set_option linter.unusedVariables false
set_option linter.unusedSimpArgs false
theorem float_lt {x : Nat} (h : (Lit.float .f64 x).wf = true) : x < 18446744073709551616 := by
  simp only [Lit.wf, decide_eq_true_eq] at h
  exact h
/-- sums that fit -/
def Fits (T : Int) : Prop := T = 0 ∨ ∃ c a : Nat, T.natAbs = c * 2 ^ a ∧ 0 < c ∧ c ≤ 9007199254740992 ∧ 60 ≤ a ∧ a ≤ 1100
theorem sum_val (s t : Bool) (m n k j : Nat) (T : Int) (hT : sg s * ((m : Int) * 2 ^ k) + sg t * ((n : Int) * 2 ^ j) = T) (hf : Fits T) :
    ∃ d, Datum.sum (.number s m ((k : Int) - 1074)) (.number t n ((j : Int) - 1074)) = some d ∧ Fine (double.write d) ∧ val (double.write d) = T := by
  unfold Datum.sum
  dsimp only
  obtain ⟨b, hb⟩ : ∃ b : Nat, min ((k : Int) - 1074) ((j : Int) - 1074) = (b : Int) - 1074 := ⟨min k j, by omega⟩
  have hbk : b ≤ k := by omega
  have hbj : b ≤ j := by omega
  rw [hb, signed_eq, signed_eq]
  have e1 : ((k : Int) - 1074 - ((b : Int) - 1074)).toNat = k - b := by omega
  have e2 : ((j : Int) - 1074 - ((b : Int) - 1074)).toNat = j - b := by omega
  rw [e1, e2]
  obtain ⟨X, hX⟩ : ∃ X, X = sg s * ((m : Int) * 2 ^ (k - b)) + sg t * ((n : Int) * 2 ^ (j - b)) := ⟨_, rfl⟩
  rw [← hX]
  have hTX : T = X * 2 ^ b := by
    rw [← hT, hX, Int.add_mul, Int.mul_assoc, Int.mul_assoc (m : Int), ← Int.pow_add, Nat.sub_add_cancel hbk, Int.mul_assoc, Int.mul_assoc (n : Int), ← Int.pow_add, Nat.sub_add_cancel hbj]
  refine ⟨_, rfl, ?_⟩
  rw [write_number]
  have e3 : ((b : Int) - 1074 + 1074).toNat = b := by omega
  have hw := write_val (if X = 0 then s && t else decide (X < 0)) X.natAbs ((b : Int) - 1074) (by omega) (by
    rw [e3]
    have hab : T.natAbs = X.natAbs * 2 ^ b := by rw [hTX, Int.natAbs_mul, Int.natAbs_pow]; rfl
    rcases hf with h | ⟨c, a, h1, h2, h3, h4, h5⟩
    · left
      have : X * 2 ^ b = 0 := by rw [← hTX, h]
      rcases Int.mul_eq_zero.1 this with h | h
      · omega
      · have := pos2 b
        omega
    · right
      obtain ⟨d, q, hc, he⟩ := int_canon c a h2 h3 h4 h5
      exact ⟨d, q, hc, by rw [← hab, h1, he]⟩)
  refine ⟨hw.1, hw.2.trans ?_⟩
  rw [e3, ← Int.mul_assoc, hTX]
  congr 1
  by_cases h0 : X = 0
  · subst h0
    simp
  · rw [if_neg h0]
    exact sg_abs X
theorem add_val (x y : Nat) (hx : Fine x) (hy : Fine y) (hf : Fits (val x + val y)) : ∃ r, double.add x y = some r ∧ Fine r ∧ val r = val x + val y := by
  obtain ⟨s, m, k, hr, hc⟩ := hx
  obtain ⟨t, n, j, hr', hc'⟩ := hy
  have e1 : val x = sg s * ((m : Int) * 2 ^ k) := by unfold val; rw [hr, V_canon]
  have e2 : val y = sg t * ((n : Int) * 2 ^ j) := by unfold val; rw [hr', V_canon]
  obtain ⟨d, h1, h2, h3⟩ := sum_val s t m n k j (val x + val y) (by rw [e1, e2]) hf
  refine ⟨double.write d, ?_, h2, h3⟩
  unfold Format.add
  rw [hr, hr', h1]
  rfl
theorem sub_val (x y : Nat) (hx : Fine x) (hy : Fine y) (hf : Fits (val x - val y)) : ∃ r, double.sub x y = some r ∧ Fine r ∧ val r = val x - val y := by
  obtain ⟨s, m, k, hr, hc⟩ := hx
  obtain ⟨t, n, j, hr', hc'⟩ := hy
  have e1 : val x = sg s * ((m : Int) * 2 ^ k) := by unfold val; rw [hr, V_canon]
  have e2 : val y = sg t * ((n : Int) * 2 ^ j) := by unfold val; rw [hr', V_canon]
  obtain ⟨d, h1, h2, h3⟩ := sum_val s (!t) m n k j (val x - val y) (by
    rw [e1, e2]
    have : sg (!t) = - sg t := by cases t <;> rfl
    rw [this, Int.neg_mul]
    omega) hf
  refine ⟨double.write d, ?_, h2, h3⟩
  unfold Format.sub
  rw [hr, hr']
  show (Datum.sum _ (.number (!t) n ((j : Int) - 1074))).map _ = _
  rw [h1]
  rfl
theorem one_w : Fine 4607182418800017408 ∧ val 4607182418800017408 = SS := by
  have h := flt_small 1 (by decide) (by decide)
  have e : flt 1 = 4607182418800017408 := by decide +kernel
  rw [e] at h
  exact ⟨h.1, h.2.trans (Int.one_mul _)⟩
def EH : Nat := 1073
theorem EH_eq : EH = 1073 := rfl
attribute [irreducible] EH
def HF : Int := 2 ^ EH
theorem SS_HF : SS = 2 * HF := by
  unfold SS HF
  have : E0 = EH + 1 := by rw [E0_eq, EH_eq]
  rw [this, Int.pow_succ, Int.mul_comm]
theorem HF_pos : 0 < HF := Int.pow_pos (by decide)
theorem two52 : (2 : Int) ^ (1073 - 1021) = 4503599627370496 := by decide +kernel
theorem half_w : Fine 4602678819172646912 ∧ val 4602678819172646912 = HF := by
  obtain ⟨hf, hv⟩ := fine_word false 4503599627370496 1021 4602678819172646912 ⟨by omega, .inr (by omega), by omega⟩ (by decide +kernel)
  refine ⟨hf, hv.trans ?_⟩
  have e : HF = 2 ^ (1073 - 1021) * 2 ^ 1021 := by unfold HF; rw [← Int.pow_add, EH_eq]
  rw [e, two52]
  unfold sg
  simp only [Bool.false_eq_true, if_false, Int.one_mul]
  rfl
theorem fits_half (n : Int) (h1 : -4503599627370496 ≤ n) (h2 : n < 4503599627370496) : Fits ((2 * n + 1) * HF) := by
  refine .inr ⟨(2 * n + 1).natAbs, EH, ?_, by omega, by omega, by rw [EH_eq]; decide, by rw [EH_eq]; decide⟩
  unfold HF
  rw [Int.natAbs_mul, Int.natAbs_pow]
  rfl
theorem fits_whole (n : Int) (h1 : -9007199254740992 ≤ n) (h2 : n ≤ 9007199254740992) : Fits (n * SS) := by
  by_cases h0 : n = 0
  · left
    rw [h0, Int.zero_mul]
  · refine .inr ⟨n.natAbs, E0, ?_, by omega, by omega, by rw [E0_eq]; decide, by rw [E0_eq]; decide⟩
    unfold SS
    rw [Int.natAbs_mul, Int.natAbs_pow]
    rfl
theorem mul_ediv (n : Int) : n * SS / SS = n := Int.mul_ediv_cancel _ (Int.ne_of_gt SS_pos)
set_option maxHeartbeats 2000000 in
theorem floats_walk (a b : Nat) (n : Int) (w : World) (la : a < 18446744073709551616) (lb : b < 18446744073709551616) (hn : (Lit.int .i64 n).wf = true) : Calls Try.prog 4 #[.float .f64 a, .float .f64 b, .int .i64 n] w fun e w' => e = .returned (.bool true) ∧ Below w.heap.size w w' := by
  have K1 := Lib.hid (secs_c a)
  have K2 := Lib.hid (rsecs_c a)
  have K3 := Lib.hid (float_c n hn)
  have K4 := Lib.hid (rfloat_c n hn)
  have K5 := Lib.hid (order_c a b la lb)
  have K6 := Lib.hid (rorder_c a b la lb)
  have hb := bounds_i64 hn
  have hf := (flt_any n (by omega) (by omega)).1
  have o1 := fine_eq hf hf rfl
  generalize flt n = F at *
  generalize fltJ n = J at *
  generalize secs a = S at *
  generalize ordK a b = O at *
  clear hn hb hf la lb
  (go_enter Try.func4, Try.ntmps4; go_wp2_with (first | (go_at_call 12; (with_reducible refine (shown_c _).mono ?_); rintro e w1 ⟨rfl, ⟨n1, rfl⟩⟩) | (go_at_call 19; (with_reducible refine (K1.out _).mono ?_); rintro e w1 ⟨rfl, ⟨n1, rfl⟩⟩) | (go_at_call 20; (with_reducible refine (K2.out _).mono ?_); rintro e w1 ⟨rfl, ⟨n1, rfl⟩⟩) | (go_at_call 21; (with_reducible refine (K3.out _).mono ?_); rintro e w1 ⟨rfl, rfl⟩) | (go_at_call 22; (with_reducible refine (K4.out _).mono ?_); rintro e w1 ⟨rfl, rfl⟩) | (go_at_call 23; (with_reducible refine (K5.out _).mono ?_); rintro e w1 ⟨rfl, rfl⟩) | (go_at_call 24; (with_reducible refine (K6.out _).mono ?_); rintro e w1 ⟨rfl, rfl⟩)); go_ret; exact ⟨rfl, (Drawn0.mk ⟨_, rfl⟩).below⟩)
theorem floats_row (a b : Nat) (n : Int) (w : World) (h1 : (Lit.float .f64 a).wf = true) (h2 : (Lit.float .f64 b).wf = true) (hn : (Lit.int .i64 n).wf = true) : Calls Try.prog 4 #[.float .f64 a, .float .f64 b, .int .i64 n] w fun e w' => e = .returned (.bool true) ∧ Below w.heap.size w w' := floats_walk a b n w (float_lt h1) (float_lt h2) hn
end Go.Proofs.Ytpjlhlknbaggcaa.Hand
