/- The printed law holds; its walk as the card takes it; the tables as the program lays them. -/
import Derived.Test.YtpmcmkobpjobbaaDoorPPWx
import Derived.Test.YtpmcmkobpjobbaaDoorCkS2
import Derived.Laws.Strings
import Derived.LaidMore
import Derived.SevenTiedAt
import Derived.Stop.Joined
import Derived.ChangeOld
import Derived.ProofKit
namespace Go.Proofs.YtpmcmkobpjobbaaDoor
open Go.RowKit Cv Stub Go.Proofs.YtpmcmkobpjobbaaDoorW.PrintWords Go.Proofs.YtpmcmkobpjobbaaDoorW.PrintLast Go.Proofs.YtpmcmkobpjobbaaDoorW.PrintMore
theorem and16 (n : Int) : Go.bits .and .i64 n 65535 = n % 65536 := by
  have h127 : (BitVec.ofInt 64 65535).toNat = 2 ^ 16 - 1 := by decide
  have key : (BitVec.ofInt 64 n &&& BitVec.ofInt 64 65535).toNat = (n % ((2 ^ 64 : Nat) : Int)).toNat % 2 ^ 16 := by
    rw [BitVec.toNat_and, BitVec.toNat_ofInt, h127, Nat.and_two_pow_sub_one_eq_mod]
  show IntKind.i64.wrap ((BitVec.ofInt 64 n &&& BitVec.ofInt 64 65535).toNat : Nat) = n % 65536
  rw [key, IntKind.wrap_i64]
  omega
theorem wrong_no {y m d H M S : Int} {q x : Int} (h : cright y m d H M S = true) (hq : (q = 0 ∧ (x = 0 ∨ x = 13)) ∨ (q = 1 ∧ (x = 0 ∨ x = 32)) ∨ (q = 2 ∧ (x = -1 ∨ x = 24)) ∨ (q = 3 ∧ (x = -1 ∨ x = 60)) ∨ (q = 4 ∧ (x = -1 ∨ x = 60))) (k : Nat) :
    PPW.longcaselaw03_ClockWrong.j0 (k + 1) true q x y m d H M S = some true := by
  obtain ⟨hr, h1, h2, h3, h4, h5, h6⟩ := cright_iff.mp h
  have fin : ∀ {y m d H M S : Int}, cright y m d H M S = false → Stub.clock_Seconds.f y m d H M S = some (0, 1) ∧ Stub.clock_Right.f y m d H M S = some false ∧ Stub.clock_Text.f y m d H M S = some ⟨([] : List UInt8).toArray⟩ := fun hh => ⟨sec_no hh, by rw [right_is, hh], text_no hh⟩
  rw [PPW.longcaselaw03_ClockWrong.j0]
  have nr : ∀ {y m d : Int}, ¬ (1 ≤ m ∧ m ≤ 12 ∧ 1 ≤ d ∧ d ≤ 31) → rightB y m d = false := by
    intro y m d hh
    rw [Bool.eq_false_iff]
    intro hc
    obtain ⟨r1, r2, r3, r4, r5, r6⟩ := right_m hc
    have hl := len_pos y m r1 r2
    exact hh ⟨r1, r2, r3, by omega⟩
  rcases hq with ⟨rfl, hx⟩ | ⟨rfl, hx⟩ | ⟨rfl, hx⟩ | ⟨rfl, hx⟩ | ⟨rfl, hx⟩
  · obtain ⟨a, b, c⟩ := fin (show cright y x d H M S = false by unfold cright; rw [nr (by omega)]; simp)
    rw [if_pos rfl, a, b, c]
    simp
  · obtain ⟨a, b, c⟩ := fin (show cright y m x H M S = false by unfold cright; rw [nr (by omega)]; simp)
    rw [if_neg (by decide), if_pos rfl, a, b, c]
    simp
  · obtain ⟨a, b, c⟩ := fin (show cright y m d x M S = false by rw [Bool.eq_false_iff]; intro hc; have := cright_iff.mp hc; omega)
    rw [if_neg (by decide), if_neg (by decide), if_pos rfl, a, b, c]
    simp
  · obtain ⟨a, b, c⟩ := fin (show cright y m d H x S = false by rw [Bool.eq_false_iff]; intro hc; have := cright_iff.mp hc; omega)
    rw [if_neg (by decide), if_neg (by decide), if_neg (by decide), if_pos rfl, a, b, c]
    simp
  · obtain ⟨a, b, c⟩ := fin (show cright y m d H M x = false by rw [Bool.eq_false_iff]; intro hc; have := cright_iff.mp hc; omega)
    rw [if_neg (by decide), if_neg (by decide), if_neg (by decide), if_neg (by decide), if_pos rfl, a, b, c]
    simp
theorem wrong_f (k : Nat) (hk : 9 ≤ k) (y m d H M S n : Int) (low : Bool) : PPW.longcaselaw03_ClockWrong.f k y m d H M S n low = some true := by
  obtain ⟨j, rfl⟩ : ∃ j, k = j + 1 := ⟨k - 1, by omega⟩
  unfold PPW.longcaselaw03_ClockWrong.f
  rw [show Stub.longcaselaw03_shown.f = some true from rfl, right_is, and16, tmodn (by omega)]
  by_cases h : cright y m d H M S = true
  · rw [h]
    simp only [Option.bind_some, if_true]
    obtain ⟨q, hq⟩ : ∃ q, q = n % 65536 % 5 := ⟨_, rfl⟩
    have q0 : 0 ≤ q := by omega
    have q5 : q < 5 := by omega
    rw [← hq]
    clear hq
    have l1 : (([13, 32, 24, 60, 60] : List Int).length : Int) = 5 := rfl
    have l2 : (([0, 0, (-1), (-1), (-1)] : List Int).length : Int) = 5 := rfl
    rw [l1, l2, if_pos q0, if_pos q5]
    have wn := @wrong_no y m d H M S
    obtain rfl | rfl | rfl | rfl | rfl : q = 0 ∨ q = 1 ∨ q = 2 ∨ q = 3 ∨ q = 4 := by omega
    all_goals
      cases low
      · rw [if_neg (by decide)]
        refine wn h ?_ j
        first
        | exact .inl ⟨rfl, .inr rfl⟩
        | exact .inr (.inl ⟨rfl, .inr rfl⟩)
        | exact .inr (.inr (.inl ⟨rfl, .inr rfl⟩))
        | exact .inr (.inr (.inr (.inl ⟨rfl, .inr rfl⟩)))
        | exact .inr (.inr (.inr (.inr ⟨rfl, .inr rfl⟩)))
      · rw [if_pos rfl, if_pos (by decide)]
        refine wn h ?_ j
        first
        | exact .inl ⟨rfl, .inl rfl⟩
        | exact .inr (.inl ⟨rfl, .inl rfl⟩)
        | exact .inr (.inr (.inl ⟨rfl, .inl rfl⟩))
        | exact .inr (.inr (.inr (.inl ⟨rfl, .inl rfl⟩)))
        | exact .inr (.inr (.inr (.inr ⟨rfl, .inl rfl⟩)))
  · rw [Bool.eq_false_iff.mpr h]
    simp
end Go.Proofs.YtpmcmkobpjobbaaDoor
namespace Go.Proofs.YtpmcmkobpjobbaaDoor.Hand
open Go.RowKit Cv
set_option linter.unusedVariables false
theorem wrong_row (y m d H M S n : Int) (low : Bool) (w : World) (w_y : (Lit.int .i64 y).wf = true) (w_m : (Lit.int .i64 m).wf = true) (w_d : (Lit.int .i64 d).wf = true) (w_H : (Lit.int .i64 H).wf = true) (w_M : (Lit.int .i64 M).wf = true) (w_S : (Lit.int .i64 S).wf = true) (w_n : (Lit.int .i64 n).wf = true) (hG : Glob w) :
    Calls Tryd.prog 9 #[.agg #[.int .i64 y, .int .i64 m, .int .i64 d, .int .i64 H, .int .i64 M, .int .i64 S], .int .i64 n, .bool low] w fun e w' => e = .returned (.bool true) ∧ Below w.heap.size w w' :=
  PPW.longcaselaw03_ClockWrong.calls 9 y m d H M S n low true w (wrong_f _ (Nat.le_refl _) y m d H M S n low) hG
end Go.Proofs.YtpmcmkobpjobbaaDoor.Hand
/- The tables as the program lays them. -/
namespace Go.Proofs.YtpmcmkobpjobbaaDoor.Hand
open Go Go.ChangeShapes Go.WideShapes Go.ChangeAt Go.RowKit
theorem door_met (os : Os) (args : Array Value) : laidMetH Tryd.prog laidL ((World.doorLaid Tryd.prog 400 os).forCall (fun _ _ => 0) ⟨#[], args, []⟩).memory :=
  laidMetH_of_parts3 (fuel := 8) (laidMet_of_run' 8 (by kernel_rfl) (by kernel_rfl)) (by kernel_rfl) (by kernel_rfl)
end Go.Proofs.YtpmcmkobpjobbaaDoor.Hand
