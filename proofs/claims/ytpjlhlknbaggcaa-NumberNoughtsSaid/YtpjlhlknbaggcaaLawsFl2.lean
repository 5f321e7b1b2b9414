/- The walks of four more statements on floats: each returns true. -/
import Derived.Test.YtpjlhlknbaggcaaLawsFl
namespace Go.Proofs.Ytpjlhlknbaggcaa.Hand
open Go.RowKit Go.Proofs.YtpjlhlknbaggcaaW.PrintWords Flt Ieee PNumA
set_option linter.unusedVariables false
set_option linter.unusedSimpArgs false
theorem secs_k (x : Nat) (s e : Int) (h : secs x = (s, e)) : ∀ w, Calls Try.prog 19 #[.float .f64 x] w fun e' w' => e' = .returned (.tuple #[.int .i64 s, .int .i64 e]) ∧ Drawn0 w w' := fun w => by
  have := secs_c x w
  rwa [h] at this
theorem float_k (n : Int) (hn : (Lit.int .i64 n).wf = true) (J : Bool) (h : fltJ n = J) : ∀ w, Calls Try.prog 21 #[.int .i64 n] w fun e w' => e = .returned (.tuple #[.float .f64 (flt n), .bool J]) ∧ w = w' := fun w => by
  have := float_c n hn w
  rwa [h] at this
set_option maxHeartbeats 2000000 in
theorem edges_walk (n : Int) (w : World) (hn : (Lit.int .i64 n).wf = true) : Calls Try.prog 6 #[.int .i64 n] w fun e w' => e = .returned (.bool true) ∧ Below w.heap.size w w' := by
  have hb := bounds_i64 hn
  obtain ⟨hf, W, hv, h1, h2⟩ := flt_any n (by omega) (by omega)
  by_cases h3 : W < 9223372036854775808
  · have o1 := fine_lt hf hi_w.1 (by rw [hv, hi_w.2]; exact Int.mul_lt_mul_of_pos_right h3 SS_pos)
    have es : secs (flt n) = (W, 0) := by rw [secs_ok hf (by rw [hv, mul_ediv]; omega) (by rw [hv, mul_ediv]; omega), hv, mul_ediv]
    have K2 := Lib.hid (secs_k (flt n) W 0 es)
    by_cases hbig : n > 4503599627370495 ∨ n < -4503599627370495
    · have ej : fltJ n = (W == n) := by rw [fltJ_of hv, Bool.eq_iff_iff]; simp
      have K1 := Lib.hid (float_k n hn _ ej)
      generalize flt n = F at *
      by_cases hg : 4503599627370495 < n
      · have t1 : decide (4503599627370495 < n) = true := decide_eq_true hg
        clear hb hf hv h1 h2 h3 es ej hbig hn hg
        (go_enter Try.func6, Try.ntmps6; go_wp2_with (first | (go_at_call 12; (with_reducible refine (shown_c _).mono ?_); rintro e w1 ⟨rfl, ⟨n1, rfl⟩⟩) | (go_at_call 21; (with_reducible refine (K1.out _).mono ?_); rintro e w1 ⟨rfl, rfl⟩) | (go_at_call 19; (with_reducible refine (K2.out _).mono ?_); rintro e w1 ⟨rfl, ⟨n1, rfl⟩⟩)); go_ret; exact ⟨rfl, (Drawn0.mk ⟨_, rfl⟩).below⟩)
      · have t1 : decide (4503599627370495 < n) = false := decide_eq_false hg
        have t2 : decide (n < -4503599627370495) = true := decide_eq_true (by omega)
        clear hb hf hv h1 h2 h3 es ej hbig hn hg
        (go_enter Try.func6, Try.ntmps6; go_wp2_with (first | (go_at_call 12; (with_reducible refine (shown_c _).mono ?_); rintro e w1 ⟨rfl, ⟨n1, rfl⟩⟩) | (go_at_call 21; (with_reducible refine (K1.out _).mono ?_); rintro e w1 ⟨rfl, rfl⟩) | (go_at_call 19; (with_reducible refine (K2.out _).mono ?_); rintro e w1 ⟨rfl, ⟨n1, rfl⟩⟩)); go_ret; exact ⟨rfl, (Drawn0.mk ⟨_, rfl⟩).below⟩)
    · have hv2 := (flt_small n (by omega) (by omega)).2
      have hW : W = n := by
        rw [hv] at hv2
        exact Int.eq_of_mul_eq_mul_right (Int.ne_of_gt SS_pos) hv2
      subst hW
      have ej : fltJ W = true := by rw [fltJ_of hv]; simp
      have K1 := Lib.hid (float_k W hn _ ej)
      obtain ⟨hhf, hhv⟩ := half_w
      have hS := SS_HF
      have hHp := HF_pos
      have em : W * SS = 2 * W * HF := by rw [hS, ← Int.mul_assoc, Int.mul_comm W 2]
      obtain ⟨r1, a1, f1, v1⟩ := add_val (flt W) 4602678819172646912 hf hhf (by
        rw [hv, hhv, em]
        have e : 2 * W * HF + HF = (2 * W + 1) * HF := by rw [Int.add_mul, Int.one_mul]
        rw [e]
        exact fits_half W (by omega) (by omega))
      obtain ⟨r2, a2, f2, v2⟩ := sub_val (flt W) 4602678819172646912 hf hhf (by
        rw [hv, hhv, em]
        have e0 : 2 * (W - 1) + 1 = 2 * W - 1 := by omega
        have e : 2 * W * HF - HF = (2 * (W - 1) + 1) * HF := by rw [e0, Int.sub_mul, Int.one_mul]
        rw [e]
        exact fits_half (W - 1) (by omega) (by omega))
      have q1 : val r1 / SS = W := by
        rw [v1, hv, hhv]
        have h5 : W ≤ (W * SS + HF) / SS := (le_ediv _ _).2 (by omega)
        have h6 : (W * SS + HF) / SS < W + 1 := (ediv_lt _ _).2 (by rw [Int.add_mul]; omega)
        omega
      have q2 : val r2 / SS = W - 1 := by
        rw [v2, hv, hhv]
        have h5 : W - 1 ≤ (W * SS - HF) / SS := (le_ediv _ _).2 (by rw [Int.sub_mul]; omega)
        have h6 : (W * SS - HF) / SS < W := (ediv_lt _ _).2 (by omega)
        omega
      have K3 := Lib.hid (secs_k r1 W 0 (by rw [secs_ok f1 (by rw [q1]; omega) (by rw [q1]; omega), q1]))
      have K4 := Lib.hid (secs_k r2 (W - 1) 0 (by rw [secs_ok f2 (by rw [q2]; omega) (by rw [q2]; omega), q2]))
      have ra1 := fun V => run_float_arith (P := Try.prog) V .add 28 .f64 (flt W) 4602678819172646912 r1 a1
      have ra2 := fun V => run_float_arith (P := Try.prog) V .sub 28 .f64 (flt W) 4602678819172646912 r2 a2
      generalize flt W = F at *
      have t1 : decide (4503599627370495 < W) = false := decide_eq_false (by omega)
      have t2 : decide (W < -4503599627370495) = false := decide_eq_false (by omega)
      have b1 : -4503599627370495 ≤ W := by omega
      have b2 : W ≤ 4503599627370495 := by omega
      clear hb hf hv h1 h2 h3 es ej hbig hn hv2 hhf hhv hS hHp em a1 a2 f1 f2 v1 v2 q1 q2
      (go_enter Try.func6, Try.ntmps6; go_wp2_with (first | (go_at_call 12; (with_reducible refine (shown_c _).mono ?_); rintro e w1 ⟨rfl, ⟨n1, rfl⟩⟩) | (go_at_call 21; (with_reducible refine (K1.out _).mono ?_); rintro e w1 ⟨rfl, rfl⟩) | (go_at_call 19; (with_reducible refine (K2.out _).mono ?_); rintro e w1 ⟨rfl, ⟨n1, rfl⟩⟩) | (go_at_call 19; (with_reducible refine (K3.out _).mono ?_); rintro e w1 ⟨rfl, ⟨n1, rfl⟩⟩) | (go_at_call 19; (with_reducible refine (K4.out _).mono ?_); rintro e w1 ⟨rfl, ⟨n1, rfl⟩⟩)); go_ret; exact ⟨rfl, (Drawn0.mk ⟨_, rfl⟩).below⟩)
  · have o1 := fine_eq hf hi_w.1 (by rw [hv, hi_w.2, show W = 9223372036854775808 by omega])
    have ej : fltJ n = false := by rw [fltJ_of hv]; exact decide_eq_false (by omega)
    have es : secs (flt n) = (0, 2) := secs_far hf (by rw [hv, mul_ediv]; omega)
    have K1 := Lib.hid (float_k n hn _ ej)
    have K2 := Lib.hid (secs_k (flt n) 0 2 es)
    generalize flt n = F at *
    clear hb hf hv h1 h2 h3 es ej hn
    (go_enter Try.func6, Try.ntmps6; go_wp2_with (first | (go_at_call 12; (with_reducible refine (shown_c _).mono ?_); rintro e w1 ⟨rfl, ⟨n1, rfl⟩⟩) | (go_at_call 21; (with_reducible refine (K1.out _).mono ?_); rintro e w1 ⟨rfl, rfl⟩) | (go_at_call 19; (with_reducible refine (K2.out _).mono ?_); rintro e w1 ⟨rfl, ⟨n1, rfl⟩⟩)); go_ret; exact ⟨rfl, (Drawn0.mk ⟨_, rfl⟩).below⟩)
theorem edges_row (n : Int) (w : World) (hn : (Lit.int .i64 n).wf = true) : Calls Try.prog 6 #[.int .i64 n] w fun e w' => e = .returned (.bool true) ∧ Below w.heap.size w w' := edges_walk n w hn
theorem whole_big (x : Nat) (h : Fine x) (h2 : val x / SS ≥ 9007199254740992 ∨ val x / SS ≤ -9007199254740992) : val x = val x / SS * SS ∧ Fine (flt (val x / SS)) ∧ val (flt (val x / SS)) = val x / SS * SS := by
  have hx := h
  obtain ⟨s, m, k, hr, hc⟩ := h
  have ev : val x = sg s * ((m : Int) * 2 ^ k) := by unfold val; rw [hr, V_canon]
  have hk : 1074 ≤ k := by
    rcases Nat.lt_or_ge k 1074 with hk | hk
    · exfalso
      have h1 := hc.1
      have e1 : val x / SS = (sg s * (m : Int)) / 2 ^ (1074 - k) := by rw [ev, SS_split k (by omega), ← Int.mul_assoc, Int.mul_ediv_mul_of_pos_left _ _ (pos2 k)]
      have hp := pos2 (1074 - k)
      have b1 : (sg s * (m : Int)) / 2 ^ (1074 - k) < 9007199254740992 := by
        rw [Int.ediv_lt_iff_lt_mul hp]
        have : 9007199254740992 * 1 ≤ 9007199254740992 * (2 : Int) ^ (1074 - k) := Int.mul_le_mul_of_nonneg_left (by omega) (by decide)
        have : sg s * (m : Int) < 9007199254740992 := by unfold sg; split <;> omega
        omega
      have b2 : -9007199254740992 < (sg s * (m : Int)) / 2 ^ (1074 - k) := by
        have h3 : -9007199254740991 ≤ (sg s * (m : Int)) / 2 ^ (1074 - k) := by
          rw [Int.le_ediv_iff_mul_le hp]
          have : 9007199254740991 * 1 ≤ 9007199254740991 * (2 : Int) ^ (1074 - k) := Int.mul_le_mul_of_nonneg_left (by omega) (by decide)
          have : -9007199254740991 ≤ sg s * (m : Int) := by unfold sg; split <;> omega
          rw [Int.neg_mul]
          omega
        omega
      rw [e1] at h2
      omega
    · exact hk
  have e3 := SS_over k hk
  have ev2 : val x = sg s * ((m : Int) * 2 ^ (k - 1074)) * SS := by rw [ev, e3, ← Int.mul_assoc (m : Int), ← Int.mul_assoc (sg s)]
  have hq : val x / SS = sg s * ((m : Int) * 2 ^ (k - 1074)) := by rw [ev2, mul_ediv]
  have ht : Int.tdiv (val x) SS = val x / SS := by rw [hq, ev2, mul_tdiv]
  have := trunc_exact x hx
  rw [ht] at this
  exact ⟨by rw [hq]; exact ev2, this.1, this.2⟩
set_option maxHeartbeats 2000000 in
theorem whole_walk (f : Nat) (w : World) : Calls Try.prog 11 #[.float .f64 f] w fun e w' => e = .returned (.bool true) ∧ Below w.heap.size w w' := by
  by_cases hf : Fine f
  · by_cases hr : -9223372036854775808 ≤ val f / SS ∧ val f / SS ≤ 9223372036854775807
    · have es := secs_ok hf hr.1 hr.2
      have hwf : (Lit.int .i64 (val f / SS)).wf = true := small_wf hr
      have K1 := Lib.hid (secs_k f _ 0 es)
      by_cases hbig : val f / SS ≥ 9007199254740992 ∨ val f / SS ≤ -9007199254740992
      · obtain ⟨g1, g2, g3⟩ := whole_big f hf hbig
        have ej : fltJ (val f / SS) = true := by unfold fltJ; exact decide_eq_true g3
        have K2 := Lib.hid (float_k _ hwf _ ej)
        have o1 := fine_eq g2 hf (by rw [g3]; exact g1.symm)
        generalize flt (val f / SS) = F at *
        generalize val f / SS = N at *
        by_cases h5 : 9007199254740992 ≤ N
        · have t1 : decide (9007199254740992 ≤ N) = true := decide_eq_true h5
          clear hf hr es hwf hbig g1 g2 g3 ej h5
          (go_enter Try.func11, Try.ntmps11; go_wp2_with (first | (go_at_call 12; (with_reducible refine (shown_c _).mono ?_); rintro e w1 ⟨rfl, ⟨n1, rfl⟩⟩) | (go_at_call 19; (with_reducible refine (K1.out _).mono ?_); rintro e w1 ⟨rfl, ⟨n1, rfl⟩⟩) | (go_at_call 21; (with_reducible refine (K2.out _).mono ?_); rintro e w1 ⟨rfl, rfl⟩)); go_ret; exact ⟨rfl, (Drawn0.mk ⟨_, rfl⟩).below⟩)
        · have t1 : decide (9007199254740992 ≤ N) = false := decide_eq_false h5
          have t2 : decide (N ≤ -9007199254740992) = true := decide_eq_true (by omega)
          clear hf hr es hwf hbig g1 g2 g3 ej h5
          (go_enter Try.func11, Try.ntmps11; go_wp2_with (first | (go_at_call 12; (with_reducible refine (shown_c _).mono ?_); rintro e w1 ⟨rfl, ⟨n1, rfl⟩⟩) | (go_at_call 19; (with_reducible refine (K1.out _).mono ?_); rintro e w1 ⟨rfl, ⟨n1, rfl⟩⟩) | (go_at_call 21; (with_reducible refine (K2.out _).mono ?_); rintro e w1 ⟨rfl, rfl⟩)); go_ret; exact ⟨rfl, (Drawn0.mk ⟨_, rfl⟩).below⟩)
      · obtain ⟨g2, g3⟩ := flt_small (val f / SS) (by omega) (by omega)
        have ej : fltJ (val f / SS) = true := by unfold fltJ; exact decide_eq_true g3
        have K2 := Lib.hid (float_k _ hwf _ ej)
        have hle : val f / SS * SS ≤ val f := (le_ediv _ _).1 (Int.le_refl _)
        have hlt : val f < (val f / SS + 1) * SS := (ediv_lt _ _).1 (by omega)
        obtain ⟨r, a1, f1, v1⟩ := add_val (flt (val f / SS)) 4607182418800017408 g2 one_w.1 (by
          rw [g3, one_w.2]
          have e : val f / SS * SS + SS = (val f / SS + 1) * SS := by rw [Int.add_mul, Int.one_mul]
          rw [e]
          exact fits_whole _ (by omega) (by omega))
        have ra1 := fun V => run_float_arith (P := Try.prog) V .add 28 .f64 (flt (val f / SS)) 4607182418800017408 r a1
        have o2 := fine_lt hf f1 (by rw [v1, g3, one_w.2]; rw [Int.add_mul, Int.one_mul] at hlt; exact hlt)
        have o1 : FloatKind.f64.format.order (flt (val f / SS)) f = some .lt ∨ FloatKind.f64.format.order (flt (val f / SS)) f = some .eq := by
          rcases Int.lt_or_eq_of_le hle with h | h
          · exact .inl (fine_lt g2 hf (by rw [g3]; exact h))
          · exact .inr (fine_eq g2 hf (by rw [g3]; exact h))
        generalize flt (val f / SS) = F at *
        generalize val f / SS = N at *
        have t1 : decide (9007199254740992 ≤ N) = false := decide_eq_false (by omega)
        have t2 : decide (N ≤ -9007199254740992) = false := decide_eq_false (by omega)
        clear hf hr es hwf hbig g2 g3 ej hle hlt a1 f1 v1
        rcases o1 with o1 | o1
        all_goals (go_enter Try.func11, Try.ntmps11; go_wp2_with (first | (go_at_call 12; (with_reducible refine (shown_c _).mono ?_); rintro e w1 ⟨rfl, ⟨n1, rfl⟩⟩) | (go_at_call 19; (with_reducible refine (K1.out _).mono ?_); rintro e w1 ⟨rfl, ⟨n1, rfl⟩⟩) | (go_at_call 21; (with_reducible refine (K2.out _).mono ?_); rintro e w1 ⟨rfl, rfl⟩)); go_ret; exact ⟨rfl, (Drawn0.mk ⟨_, rfl⟩).below⟩)
    · have K1 := Lib.hid (secs_k f 0 2 (secs_far hf hr))
      obtain ⟨z, oz, hsub⟩ := run_sub_fine f hf
      clear hf hr
      (go_enter Try.func11, Try.ntmps11; go_wp2_with (first | (go_at_call 12; (with_reducible refine (shown_c _).mono ?_); rintro e w1 ⟨rfl, ⟨n1, rfl⟩⟩) | (go_at_call 19; (with_reducible refine (K1.out _).mono ?_); rintro e w1 ⟨rfl, ⟨n1, rfl⟩⟩)); go_ret; exact ⟨rfl, (Drawn0.mk ⟨_, rfl⟩).below⟩)
  · have K1 := Lib.hid (secs_k f 0 3 (secs_none hf))
    have hnone : double.sub f f = none := by
      rcases three f with h | h | h
      · exact absurd h hf
      · exact inf_sub f h
      · obtain ⟨s, t, h⟩ := h
        unfold Format.sub
        rw [h]
        rfl
    have hsub := Lib.hid (fun V => run_sub_none f f hnone V)
    clear hf hnone
    go_enter Try.func11, Try.ntmps11
    go_upto_region 4 with (first | (go_at_call 12; (with_reducible refine (shown_c _).mono ?_); rintro e w1 ⟨rfl, ⟨n1, rfl⟩⟩) | (go_at_call 19; (with_reducible refine (K1.out _).mono ?_); rintro e w1 ⟨rfl, ⟨n1, rfl⟩⟩))
    refine forget_wp (fun wc => Aside0 (Drawn0 w wc)) ⟨⟨⟨_, rfl⟩⟩⟩ ?_
    rintro w7 HD
    obtain ⟨z, hz, hs⟩ := hsub.out w7
    have o2' : FloatKind.f64.format.order z 0 = none := nan_order z hz 0
    clear hz hsub
    go_wp2
    go_ret
    exact ⟨rfl, (HD.out.step 1).below⟩
theorem whole_row (f : Nat) (w : World) (h1 : (Lit.float .f64 f).wf = true) : Calls Try.prog 11 #[.float .f64 f] w fun e w' => e = .returned (.bool true) ∧ Below w.heap.size w w' := whole_walk f w
end Go.Proofs.Ytpjlhlknbaggcaa.Hand
