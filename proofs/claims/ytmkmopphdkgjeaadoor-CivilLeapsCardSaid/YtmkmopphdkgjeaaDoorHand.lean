/- The walk of civil.Length: what a month's length is, where the table of lengths lies in block 0. -/
import Derived.Test.YtmkmopphdkgjeaaDoorProg
import Derived.Test.YtmkmopphdkgjeaaDoorPlain
import Derived.WalkKit
import Derived.WalkSpells
import Derived.Below
import Derived.Outline
import Derived.Lib.Hide
import Derived.Test.YtmkmopphdkgjeaaDoorWWords
import Derived.Test.YtmkmopphdkgjeaaDoorWLast
import Derived.Test.YtmkmopphdkgjeaaDoorWMore
namespace Go.Proofs.YtmkmopphdkgjeaaDoor.Hand
open Go.RowKit Go.Proofs.YtmkmopphdkgjeaaDoorW.PrintWords Go.Proofs.YtmkmopphdkgjeaaDoorW.PrintLast Go.Proofs.YtmkmopphdkgjeaaDoorW.PrintMore
/-- The table of the months' lengths, as it lies. -/
def tab : List Int := [31, 28, 31, 30, 31, 30, 31, 31, 30, 31, 30, 31]
def Glob (w : World) : Prop := 0 < w.heap.size ∧ ∀ i, i < 12 → w.cell? ⟨0, i, none⟩ = some (.int .i64 (tab.getD i 0))
theorem Glob.at {w : World} (h : Glob w) (i : Nat) (hi : i < 12) : w.cell? ⟨0, i, none⟩ = some (.int .i64 (tab.getD i 0)) := h.2 i hi
theorem Glob.drewN {w : World} (h : Glob w) (n : Nat) : Glob (w.drewN n) := by
  refine ⟨by simpa using h.1, fun i hi => ?_⟩
  rw [← h.2 i hi]
  simp
theorem Glob.drawn {w w' : World} (h : Glob w) (hd : Drawn0 w w') : Glob w' := by
  obtain ⟨n, rfl⟩ := hd
  exact h.drewN n
theorem Glob.below {w w' : World} (h : Glob w) (hb : Below w.heap.size w w') : Glob w' :=
  ⟨Nat.lt_of_lt_of_le h.1 hb.size, fun i hi => (hb.cell (p := ⟨0, i, none⟩) h.1).trans (h.2 i hi)⟩
def civil_Length.f (a0 a1 : Int) : Option Int := some (Cv.len a0 a1)
theorem tmod0 (y k : Int) : y.tmod k = 0 ↔ y % k = 0 := by
  rw [← Int.dvd_iff_tmod_eq_zero, Int.dvd_iff_emod_eq_zero]
theorem leap_b (y : Int) : ((y.tmod 4 == 0) && (!(y.tmod 100 == 0) || (y.tmod 400 == 0))) = Cv.leapB y := by
  unfold Cv.leapB
  have a : (y.tmod 4 = 0) ↔ (y % 4 = 0) := tmod0 _ _
  have b : (y.tmod 100 = 0) ↔ (y % 100 = 0) := tmod0 _ _
  have c : (y.tmod 400 = 0) ↔ (y % 400 = 0) := tmod0 _ _
  rw [Bool.eq_iff_iff]
  simp [a, b, c]
set_option maxHeartbeats 2000000 in
theorem civil_Length.calls (a0 a1 : Int) (r : Int) (w : World) (h : civil_Length.f a0 a1 = some r) : Glob w →
    Calls Tryd.prog 18 #[.int .i64 a0, .int .i64 a1] w fun e w' => e = .returned (.int .i64 r) ∧ Drawn0 w w' := by
  intro hG
  obtain rfl := Option.some.inj h
  by_cases h1 : a1 < 1
  · have e : Cv.len a0 a1 = 0 := Cv.len_out _ _ (.inl h1)
    have E := Lib.hid e
    clear e
    have : (a1 == 2) = false := by simp; omega
    go_enter Tryd.func18, Tryd.ntmps18
    go_wp2
    go_ret
    exact ⟨by rw [E.out]; rfl, Drawn0.refl _⟩
  · by_cases h2 : 12 < a1
    · have e : Cv.len a0 a1 = 0 := Cv.len_out _ _ (.inr h2)
      have E := Lib.hid e
      clear e
      have : (a1 == 2) = false := by simp; omega
      go_enter Tryd.func18, Tryd.ntmps18
      go_wp2
      go_ret
      exact ⟨by rw [E.out]; rfl, Drawn0.refl _⟩
    · have hm : a1 = 1 ∨ a1 = 2 ∨ a1 = 3 ∨ a1 = 4 ∨ a1 = 5 ∨ a1 = 6 ∨ a1 = 7 ∨ a1 = 8 ∨ a1 = 9 ∨ a1 = 10 ∨ a1 = 11 ∨ a1 = 12 := by omega
      clear h1 h2
      by_cases h2 : a1 = 2
      · subst h2
        have hL := Lib.hid (leap_b a0)
        have hl : Cv.len a0 2 = if Cv.leapB a0 = true then 29 else 28 := by simp [Cv.len, Cv.lp]; split <;> rfl
        have E := Lib.hid hl
        have hc := hG.at 1 (by decide)
        simp only [tab] at hc
        clear hl hm h
        go_enter Tryd.func18, Tryd.ntmps18
        go_wp2
        all_goals
          go_ret
          refine ⟨?_, Drawn0.refl _⟩
          rw [E.out, ← hL.out]
          simp [*]
      · have e : Cv.len a0 a1 = tab.getD (a1 - 1).toNat 0 := by
          rcases hm with h | h | h | h | h | h | h | h | h | h | h | h <;> subst h <;> first | rfl | (exact absurd rfl h2)
        have hc := hG.at (a1 - 1).toNat (by omega)
        have e2 : (a1 - 1).toNat = a1.toNat - 1 := by omega
        rw [e2] at hc e
        have E := Lib.hid e
        have b1 : 1 ≤ a1 := by omega
        have b2 : a1 ≤ 12 := by omega
        clear e e2 hm h
        have : (a1 == 2) = false := by simp; omega
        go_enter Tryd.func18, Tryd.ntmps18
        go_wp2
        go_ret
        exact ⟨by rw [E.out]; rfl, Drawn0.refl _⟩
end Go.Proofs.YtmkmopphdkgjeaaDoor.Hand
