/- Two rows of the same numbers are the same. -/
import Derived.Test.YtfiehglbpcjkfaaEpBase
import Derived.Test.YtfiehglbpcjkfaaPsamex1
namespace Go.Proofs.Ytfiehglbpcjkfaa.Hand
open Go.Proofs Go Go.RowKit Go.Proofs.YtfiehglbpcjkfaaW.PrintWords Go.Proofs.Ytfiehglbpcjkfaa.Psame
set_option linter.unusedVariables false
theorem same_l0 (L : List Int) (hL : L.length ≤ 1000000) : ∀ (m i : Nat), i + m = L.length → longcaselaw16_same.l0 (m + 1) L L (i : Int) = some true
  | 0, i, h => by
    unfold longcaselaw16_same.l0
    rw [if_neg (by omega)]
  | m + 1, i, h => by
    unfold longcaselaw16_same.l0
    rw [if_pos (by omega), if_pos (by omega), if_pos (by omega), if_pos rfl]
    have hw : wrap64 ((i : Int) + 1) = ((i + 1 : Nat) : Int) := by unfold wrap64; omega
    rw [hw]
    exact same_l0 L hL m (i + 1) (by omega)
theorem same_c (A0 : Option Addr) (c0 : Nat) (A1 : Option Addr) (c1 : Nat) (L : List Int) (w : World) (hL : L.length ≤ 1000000) (h0 : Kd.C (Kd.int .i64) w A0 L.length L) (k0 : L.length ≤ c0) (h1 : Kd.C (Kd.int .i64) w A1 L.length L) (k1 : L.length ≤ c1) :
    Calls Try.prog 23 #[.slice A0 L.length c0, .slice A1 L.length c1] w fun e w' => e = .returned (.bool true) ∧ Below w.heap.size w w' := by
  refine (longcaselaw16_same.calls (L.length + 1) A0 c0 L A1 c1 L true w h0 k0 h1 k1 ?_).mono ?_
  · unfold longcaselaw16_same.f
    rw [if_pos rfl]
    exact same_l0 L hL L.length 0 (by omega)
  · rintro e w' ⟨rfl, hd⟩
    refine ⟨rfl, ?_⟩
    obtain ⟨n, rfl⟩ := hd
    exact ⟨rfl, rfl, rfl, Nat.le_refl _, fun _ _ => rfl⟩
end Go.Proofs.Ytfiehglbpcjkfaa.Hand
