/- What the document's printed order comes to, in closed form. -/
import Derived.Test.YtpmcmkobpjobbaaDoorPPCx
import Derived.Test.YtpmcmkobpjobbaaDoorCkBase
namespace Go.Proofs.YtpmcmkobpjobbaaDoor
open Go.RowKit Hand PPC Cv Go.Proofs.YtpmcmkobpjobbaaDoorW.PrintWords Go.Proofs.YtpmcmkobpjobbaaDoorW.PrintLast Go.Proofs.YtpmcmkobpjobbaaDoorW.PrintMore
set_option maxHeartbeats 1000000 in
theorem rcmp_f (k : Nat) (a b c d e f a' b' c' d' e' f' : Int) : longcaseref03_Compare.f (k + 7) a b c d e f a' b' c' d' e' f' = some (cmpL [a, b, c, d, e, f] [a', b', c', d', e', f']) := by
  have r : ∀ (x0 x1 x2 x3 x4 x5 : Int), rd [x0, x1, x2, x3, x4, x5] 0 = x0 ∧ rd [x0, x1, x2, x3, x4, x5] 1 = x1 ∧ rd [x0, x1, x2, x3, x4, x5] 2 = x2 ∧ rd [x0, x1, x2, x3, x4, x5] 3 = x3 ∧ rd [x0, x1, x2, x3, x4, x5] 4 = x4 ∧ rd [x0, x1, x2, x3, x4, x5] 5 = x5 := fun _ _ _ _ _ _ => ⟨rfl, rfl, rfl, rfl, rfl, rfl⟩
  obtain ⟨p0, p1, p2, p3, p4, p5⟩ := r a b c d e f
  obtain ⟨q0, q1, q2, q3, q4, q5⟩ := r a' b' c' d' e' f'
  unfold longcaseref03_Compare.f
  have w1 : wrap64 ((0 : Int) + 1) = 1 := w64 (by omega) (by omega)
  have w2 : wrap64 ((1 : Int) + 1) = 2 := w64 (by omega) (by omega)
  have w3 : wrap64 ((2 : Int) + 1) = 3 := w64 (by omega) (by omega)
  have w4 : wrap64 ((3 : Int) + 1) = 4 := w64 (by omega) (by omega)
  have w5 : wrap64 ((4 : Int) + 1) = 5 := w64 (by omega) (by omega)
  have w6 : wrap64 ((5 : Int) + 1) = 6 := w64 (by omega) (by omega)
  have st : ∀ (j : Nat) (L L' : List Int) (i : Int), 0 ≤ i → i < 6 → L.length = 6 → L'.length = 6 → longcaseref03_Compare.l0 (j + 1) L L' i = if rd L i < rd L' i then some (-1) else if rd L i > rd L' i then some 1 else longcaseref03_Compare.l0 j L L' (wrap64 (i + 1)) := by
    intro j L L' i h0 h6 hL hL'
    rw [longcaseref03_Compare.l0, if_pos h6, if_pos h0, if_pos (by omega), if_pos (by omega)]
  have en : ∀ (j : Nat) (L L' : List Int), longcaseref03_Compare.l0 (j + 1) L L' 6 = some 0 := by
    intro j L L'
    rw [longcaseref03_Compare.l0, if_neg (by omega)]
  rw [st _ _ _ _ (by omega) (by omega) rfl rfl, p0, q0, w1, st _ _ _ _ (by omega) (by omega) rfl rfl, p1, q1, w2, st _ _ _ _ (by omega) (by omega) rfl rfl, p2, q2, w3, st _ _ _ _ (by omega) (by omega) rfl rfl, p3, q3, w4, st _ _ _ _ (by omega) (by omega) rfl rfl, p4, q4, w5, st _ _ _ _ (by omega) (by omega) rfl rfl, p5, q5, w6, en]
  have hs : ∀ (x y c : Int), (if x < y then some (-1) else if x > y then some 1 else some c) = some (if x < y then -1 else if x > y then 1 else c) := by
    intro x y c
    by_cases h : x < y
    · rw [if_pos h, if_pos h]
    · rw [if_neg h, if_neg h]
      by_cases h : x > y
      · rw [if_pos h, if_pos h]
      · rw [if_neg h, if_neg h]
  simp only [hs]
  rfl
end Go.Proofs.YtpmcmkobpjobbaaDoor
