/- Contracts of the float functions that only look, and of math's. -/
import Derived.Test.YtpjlhlknbaggcaaProg
import Derived.WalkKit
import Derived.WalkSpells
import Derived.WalkLawsBesides
import Derived.Below
import Derived.Outline
import Derived.Lib.Hide
import Derived.Laws.Externs
import Derived.Laws.FloatArith
import Derived.Test.YtpjlhlknbaggcaaWWords
import Derived.Test.YtpjlhlknbaggcaaFlt2
namespace Go.Proofs.Ytpjlhlknbaggcaa.Hand
open Go.RowKit Go.Proofs.YtpjlhlknbaggcaaW.PrintWords Flt Ieee
set_option linter.unusedVariables false
set_option linter.unusedSimpArgs false
theorem ext_floor (args : Array Value) (w : World) : (callFunc 35 args).run Try.prog w = ((Extern.MathFloor.toIntegral "math.archFloor" .down args).run Try.prog w).andThen fun v w' => .ok (.value v) w' :=
  run_callFunc_extern Try.func35 (by kernel_rfl) (by kernel_rfl) (by kernel_rfl) (by kernel_rfl) args w
theorem ext_bits (args : Array Value) (w : World) : (callFunc 39 args).run Try.prog w = ((Extern.MathFloatBits.float64bits args).run Try.prog w).andThen fun v w' => .ok (.value v) w' :=
  run_callFunc_extern Try.func39 (by kernel_rfl) (by kernel_rfl) (by kernel_rfl) (by kernel_rfl) args w
theorem ext_from (args : Array Value) (w : World) : (callFunc 41 args).run Try.prog w = ((Extern.MathFloatBits.float64frombits args).run Try.prog w).andThen fun v w' => .ok (.value v) w' :=
  run_callFunc_extern Try.func41 (by kernel_rfl) (by kernel_rfl) (by kernel_rfl) (by kernel_rfl) args w
theorem run_bits (x : Nat) (w : World) : (Extern.MathFloatBits.float64bits #[.float .f64 x]).run Try.prog w = .ok (.int .u64 x) w := rfl
theorem run_from (x : Int) (w : World) : (Extern.MathFloatBits.float64frombits #[.int .u64 x]).run Try.prog w = .ok (.float .f64 x.toNat) w := rfl
def Nan (x : Nat) : Prop := ∃ s t, double.read x = .nan s t
theorem nan_order (x : Nat) (h : Nan x) (y : Nat) : double.order x y = none := by
  obtain ⟨s, t, h⟩ := h
  unfold Format.order Datum.order
  rw [h]
theorem nan_order' (x : Nat) (h : Nan x) (y : Nat) : double.order y x = none := by
  obtain ⟨s, t, h⟩ := h
  unfold Format.order Datum.order
  rw [h]
  cases double.read y <;> rfl
theorem nan_word (s : Bool) (r : Nat) (h1 : 9218868437227405312 < r) (h2 : r < 9223372036854775808) : Nan (double.word s r) := by
  have e1 : double.word s r / 9223372036854775808 % 2 = if s then 1 else 0 := by
    unfold Format.word
    rw [dbl_sign]
    cases s <;> simp <;> omega
  have e2 : double.word s r % 9223372036854775808 = r := by
    unfold Format.word
    rw [dbl_sign]
    cases s <;> simp <;> omega
  unfold Nan Format.read
  rw [dbl_sign, dbl_binade, dbl_inf, dbl_least]
  simp only [e1, e2]
  rw [if_neg (by omega), if_neg (by omega), if_neg (by omega)]
  exact ⟨_, _, rfl⟩
theorem nan_drawn (t : Nat) : Nan ((t % 2) * 2 ^ 63 + 0x7ff0000000000000 + 1 + (t / 2) % (2 ^ 52 - 1)) := by
  have hr : 9218868437227405312 < 0x7ff0000000000000 + 1 + (t / 2) % (2 ^ 52 - 1) := by omega
  have hr2 : 0x7ff0000000000000 + 1 + (t / 2) % (2 ^ 52 - 1) < 9223372036854775808 := by omega
  rcases Nat.mod_two_eq_zero_or_one t with h | h
  · have := nan_word false _ hr hr2
    unfold Format.word at this
    rw [h]
    simpa [Nat.add_assoc] using this
  · have := nan_word true _ hr hr2
    unfold Format.word at this
    rw [dbl_sign] at this
    rw [h]
    have e : 1 * 2 ^ 63 + 0x7ff0000000000000 + 1 + (t / 2) % (2 ^ 52 - 1) = 9223372036854775808 + (0x7ff0000000000000 + 1 + (t / 2) % (2 ^ 52 - 1)) := by omega
    rw [e]
    exact this
theorem andNot_sign (x : Nat) (hx : x < 18446744073709551616) : Go.bits .andNot .u64 (x : Int) 9223372036854775808 = ((x % 9223372036854775808 : Nat) : Int) := by
  have hm : ~~~ (BitVec.ofInt 64 9223372036854775808) = BitVec.ofNat 64 (2 ^ 63 - 1) := by decide +kernel
  have h127 : (BitVec.ofNat 64 (2 ^ 63 - 1)).toNat = 2 ^ 63 - 1 := by decide +kernel
  have key : (BitVec.ofInt 64 (x : Int) &&& ~~~ (BitVec.ofInt 64 9223372036854775808)).toNat = x % 9223372036854775808 := by
    rw [hm, BitVec.toNat_and, h127, Nat.and_two_pow_sub_one_eq_mod, BitVec.toNat_ofInt]
    omega
  show IntKind.u64.wrap ((BitVec.ofInt 64 (x : Int) &&& ~~~ (BitVec.ofInt 64 9223372036854775808)).toNat : Nat) = _
  rw [key, IntKind.wrap_u64]
  omega
set_option maxHeartbeats 1000000 in
theorem isnan_c (x : Nat) (w : World) : Calls Try.prog 29 #[.float .f64 x] w fun e w' => e = .returned (.bool (double.order x x != some .eq)) ∧ w = w' := by
  go_enter Try.func29, Try.ntmps29
  go_wp2
  go_ret
  exact ⟨rfl, rfl⟩
set_option maxHeartbeats 1000000 in
theorem cmpnan_c (x : Nat) (w : World) : Calls Try.prog 38 #[.float .f64 x] w fun e w' => e = .returned (.bool (double.order x x != some .eq)) ∧ w = w' := by
  go_enter Try.func38, Try.ntmps38
  go_wp2
  go_ret
  exact ⟨rfl, rfl⟩
set_option maxHeartbeats 1000000 in
theorem abs_c (x : Nat) (hx : x < 18446744073709551616) (w : World) : Calls Try.prog 37 #[.float .f64 x] w fun e w' => e = .returned (.float .f64 (x % 9223372036854775808)) ∧ w = w' := by
  have h1 := ext_bits
  have h2 := ext_from
  have h3 := run_bits
  have h4 := run_from
  have h5 := andNot_sign x hx
  go_enter Try.func37, Try.ntmps37
  go_wp2
  go_ret
  exact ⟨rfl, rfl⟩
theorem fine_order (x y : Nat) (hx : Fine x) (hy : Fine y) : FloatKind.f64.format.order x y = some (compare (val x) (val y)) := order_word x y hx hy
theorem cmp_lt {a b : Int} (h : a < b) : compare a b = .lt := by simp [compare, compareOfLessAndEq, h]
theorem cmp_eq (a : Int) : compare a a = .eq := by simp [compare, compareOfLessAndEq]
theorem cmp_gt {a b : Int} (h : b < a) : compare a b = .gt := by
  have h1 : ¬ a < b := by omega
  have h2 : ¬ a = b := by omega
  simp [compare, compareOfLessAndEq, h1, h2]
theorem fine_lt {x y : Nat} (hx : Fine x) (hy : Fine y) (h : val x < val y) : FloatKind.f64.format.order x y = some .lt := by rw [fine_order x y hx hy, cmp_lt h]
theorem fine_eq {x y : Nat} (hx : Fine x) (hy : Fine y) (h : val x = val y) : FloatKind.f64.format.order x y = some .eq := by rw [fine_order x y hx hy, h, cmp_eq]
theorem fine_gt {x y : Nat} (hx : Fine x) (hy : Fine y) (h : val y < val x) : FloatKind.f64.format.order x y = some .gt := by rw [fine_order x y hx hy, cmp_gt h]
theorem fine_nan {x : Nat} (h : Fine x) : ¬ Nan x := by
  rintro ⟨s, t, h2⟩
  obtain ⟨s', m, k, h1, _⟩ := h
  rw [h1] at h2
  cases h2
def Inf (x : Nat) : Prop := ∃ s, double.read x = .infinity s
theorem three (x : Nat) : Fine x ∨ Inf x ∨ Nan x := by
  rcases read_cases x with ⟨s, m, k, h, hc⟩ | h | h
  · exact .inl ⟨s, m, k, h, hc⟩
  · exact .inr (.inl h)
  · exact .inr (.inr h)
theorem inf_nan {x : Nat} (h : Inf x) : ¬ Nan x := by
  rintro ⟨s, t, h2⟩
  obtain ⟨s', h1⟩ := h
  rw [h1] at h2
  cases h2
theorem inf_fine {x : Nat} (h : Inf x) : ¬ Fine x := by
  rintro ⟨s, m, k, h2, _⟩
  obtain ⟨s', h1⟩ := h
  rw [h1] at h2
  cases h2
theorem inf_order {x : Nat} (h : Inf x) : FloatKind.f64.format.order x x = some .eq := by
  obtain ⟨s, h⟩ := h
  show double.order x x = _
  unfold Format.order Datum.order
  rw [h]
  dsimp only
  congr 1
  cases s <;> decide
/-- a float, rounded down -/
def floorB (x : Nat) : Nat := double.write (Datum.integral .down (double.read x))
theorem floorB_lt (x : Nat) : floorB x < 18446744073709551616 := double.write_lt _
def floorOf (x : Nat) : Datum → Sem Value
  | .nan s t =>
    if FloatKind.f64.format.quiet t = t then pure (.float .f64 x) else do
      let kept ← choose (.extern "math.Floor,Ceil,Trunc,RoundToEven.signallingNaN kept" 2)
      pure (.float .f64 (if kept == 1 then x else FloatKind.f64.encode (.nan s (FloatKind.f64.format.quiet t))))
  | d => pure (.float .f64 (FloatKind.f64.encode (d.integral .down)))
theorem floor_unf (x : Nat) (d : Datum) (h : FloatKind.f64.decode x = d) : Extern.MathFloor.toIntegral "math.archFloor" .down #[.float .f64 x] = floorOf x d := by
  have e : Extern.MathFloor.toIntegral "math.archFloor" .down #[.float .f64 x] = floorOf x (FloatKind.f64.decode x) := by
    show (match FloatKind.f64.decode x with
      | .nan s t => _
      | d => _) = _
    cases FloatKind.f64.decode x <;> rfl
  rw [e, h]
theorem run_floor (x : Nat) (h : ¬ Nan x) (w : World) : (Extern.MathFloor.toIntegral "math.archFloor" .down #[.float .f64 x]).run Try.prog w = .ok (.float .f64 (floorB x)) w := by
  unfold floorB
  rcases three x with h1 | h1 | h1
  · obtain ⟨s, m, k, h1, _⟩ := h1
    have h2 : FloatKind.f64.decode x = .number s m ((k : Int) - 1074) := h1
    rw [floor_unf x _ h2, h1]
    rfl
  · obtain ⟨s, h1⟩ := h1
    have h2 : FloatKind.f64.decode x = .infinity s := h1
    rw [floor_unf x _ h2, h1]
    rfl
  · exact absurd h1 h
theorem run_floor_nan (x : Nat) (h : Nan x) (w : World) : ∃ y n, Nan y ∧ (Extern.MathFloor.toIntegral "math.archFloor" .down #[.float .f64 x]).run Try.prog w = .ok (.float .f64 y) (w.drewN n) := by
  have hx := h
  obtain ⟨s, t, h⟩ := h
  have h2 : FloatKind.f64.decode x = .nan s t := h
  rw [floor_unf x _ h2]
  unfold floorOf
  dsimp only
  split
  · exact ⟨x, 0, hx, rfl⟩
  · simp only [Sem.run_bind, run_choose_drew]
    have hq : (Question.extern "math.Floor,Ceil,Trunc,RoundToEven.signallingNaN kept" 2).forced = false := by decide
    rw [hq]
    simp only [Bool.false_eq_true, if_false, Result.andThen_ok, Sem.run_pure]
    split
    · exact ⟨x, 1, hx, rfl⟩
    · refine ⟨_, 1, ?_, rfl⟩
      have hne : double.quiet t % double.binade ≠ 0 := by
        intro h0
        unfold Format.quiet at h0
        have hb : double.binade = 2 ^ 52 := rfl
        have hf : (double.fractionBits - 1) = 51 := rfl
        rw [hb, hf] at h0
        have h1 : (t ||| 2 ^ 51).testBit 51 = true := by rw [Nat.testBit_or, Nat.testBit_two_pow_self, Bool.or_true]
        have h3 : ((t ||| 2 ^ 51) % 2 ^ 52).testBit 51 = true := by rw [Nat.testBit_mod_two_pow, h1]; decide
        rw [h0, Nat.zero_testBit] at h3
        cases h3
      have hlt : double.quiet t % double.binade < 4503599627370496 := Nat.mod_lt _ (by decide)
      show Nan (double.word s (double.infRung + double.quiet t % double.binade))
      rw [dbl_inf]
      exact nan_word s _ (by omega) (by omega)
set_option maxHeartbeats 1000000 in
theorem floor_c (x : Nat) (h : ¬ Nan x) (w : World) : Calls Try.prog 28 #[.float .f64 x] w fun e w' => e = .returned (.float .f64 (floorB x)) ∧ w = w' := by
  have h1 := ext_floor
  have h2 := run_floor x h
  clear h
  go_enter Try.func28, Try.ntmps28
  go_wp2
  go_ret
  exact ⟨rfl, rfl⟩
set_option maxHeartbeats 1000000 in
theorem floor_nan_c (x : Nat) (h : Nan x) (w : World) : Calls Try.prog 28 #[.float .f64 x] w fun e w' => (∃ y, e = .returned (.float .f64 y) ∧ Nan y) ∧ Drawn0 w w' := by
  have h1 := ext_floor
  obtain ⟨y, n, hy, h2⟩ := run_floor_nan x h w
  clear h
  go_enter Try.func28, Try.ntmps28
  go_wp2
  go_ret
  exact ⟨⟨y, rfl, hy⟩, ⟨⟨n, rfl⟩⟩⟩
set_option maxHeartbeats 1000000 in
theorem isinf_c (x : Nat) (hx : x < 18446744073709551616) (w : World) : Calls Try.prog 30 #[.float .f64 x, .int .i64 0] w fun e w' => e = .returned (.bool (double.order (x % 9223372036854775808) 9218868437227405311 == some .gt)) ∧ w = w' := by
  go_enter Try.func30, Try.ntmps30
  go_wp2_with (go_at_call 37; refine (abs_c x hx _).mono ?_; rintro e w1 ⟨rfl, rfl⟩)
  go_ret
  exact ⟨rfl, rfl⟩
end Go.Proofs.Ytpjlhlknbaggcaa.Hand
