/- The walk of civil.Length: what a month's length is, where the table of lengths lies in block 0. -/
import Derived.Test.YtpmcmkobpjobbaaDoorProg
import Derived.Test.YtpmcmkobpjobbaaDoorCvPlain
import Derived.Lib.SmallJoins
import Derived.Lib.LaidTab
import Derived.Lib.ItoaMem
import Derived.LaidSub
import Derived.MakeChecks
import Derived.Test.YtpmcmkobpjobbaaDoorRows
import Derived.WalkKit
import Derived.WalkSpells
import Derived.Below
import Derived.Outline
import Derived.Lib.Hide
import Derived.Test.YtpmcmkobpjobbaaDoorWWords
import Derived.Test.YtpmcmkobpjobbaaDoorWLast
import Derived.Test.YtpmcmkobpjobbaaDoorWMore
namespace Go.Proofs.YtpmcmkobpjobbaaDoor.Hand
open Go.RowKit Go.Proofs.YtpmcmkobpjobbaaDoorW.PrintWords Go.Proofs.YtpmcmkobpjobbaaDoorW.PrintLast Go.Proofs.YtpmcmkobpjobbaaDoorW.PrintMore
/-- The table of the months' lengths, as it lies. -/
def tab : List Int := [31, 28, 31, 30, 31, 30, 31, 31, 30, 31, 30, 31]
def Glob (w : World) : Prop := Lib.TabIs Tryd.prog w "longcase/civil.lengths" .i64 tab ∧ Lib.TabIs Tryd.prog w "internal/strconv.uint64pow10" .u64 Lib.pow10Tab
theorem glen : Tryd.prog.globalNamed "longcase/civil.lengths" = some 0 := by kernel_rfl
theorem gpow : Tryd.prog.globalNamed "internal/strconv.uint64pow10" = some 1 := by kernel_rfl
theorem Glob.at {w : World} (h : Glob w) (i : Nat) (hi : i < 12) : w.cell? ⟨0, i, none⟩ = some (.int .i64 (tab.getD i 0)) := h.1.cell glen i (by simpa [tab] using hi)
theorem Glob.below {w w' : World} (h : Glob w) (hb : Below w.heap.size w w') : Glob w' := ⟨Joins.tab_stays glen h.1 hb (Nat.le_refl _), Joins.tab_stays gpow h.2 hb (Nat.le_refl _)⟩
theorem Glob.drewN {w : World} (h : Glob w) (n : Nat) : Glob (w.drewN n) := h.below (Drawn0.mk ⟨n, rfl⟩).below
theorem Glob.drawn {w w' : World} (h : Glob w) (hd : Drawn0 w w') : Glob w' := h.below hd.below
abbrev laidL : List (String × DataW Unit) := [("math/bits.deBruijn32tab", Rows.laid_math_bits_deBruijn32tab), ("math/bits.deBruijn64tab", Rows.laid_math_bits_deBruijn64tab), ("internal/strconv.uint64pow10", Rows.laid_internal_strconv_uint64pow10), ("longcase/civil.lengths", Rows.laid_longcase_civil_lengths)]
theorem glob_of {W : World} (h : laidMetH Tryd.prog laidL W) : Glob W := by
  rw [MakeChecks.laidMetH_plain _ _ _ (by kernel_rfl)] at h
  constructor
  · have h2 := h.filter (fun x => x.1 == "longcase/civil.lengths")
    exact Lib.tabIs_of_head (P := Tryd.prog) (rest := []) (g := 0) (t := 79) (e := 3) (n := 12) glen (by kernel_rfl) Tryd.underlying79 Tryd.underlying3 (by kernel_rfl) (by kernel_rfl) h2
  · have h2 := h.filter (fun x => x.1 == "internal/strconv.uint64pow10")
    exact Lib.tabIs_of_head (P := Tryd.prog) (rest := []) (g := 1) (t := 98) (e := 84) (n := 20) gpow (by kernel_rfl) Tryd.underlying98 Tryd.underlying84 (by kernel_rfl) (by kernel_rfl) h2
def civil_Length.f (a0 a1 : Int) : Option Int := some (Cv.len a0 a1)
theorem tmod0 (y k : Int) : y.tmod k = 0 ↔ y % k = 0 := by
  rw [← Int.dvd_iff_tmod_eq_zero, Int.dvd_iff_emod_eq_zero]
theorem leap_b (y : Int) : ((y.tmod 4 == 0) && (!(y.tmod 100 == 0) || (y.tmod 400 == 0))) = Cv.leapB y := by
  unfold Cv.leapB
  have a : (y.tmod 4 = 0) ↔ (y % 4 = 0) := tmod0 _ _
  have b : (y.tmod 100 = 0) ↔ (y % 100 = 0) := tmod0 _ _
  have c : (y.tmod 400 = 0) ↔ (y % 400 = 0) := tmod0 _ _
  rw [Bool.eq_iff_iff]
  simp [a, b, c]
set_option maxHeartbeats 2000000 in
theorem civil_Length.calls (a0 a1 : Int) (r : Int) (w : World) (h : civil_Length.f a0 a1 = some r) : Glob w →
    Calls Tryd.prog 39 #[.int .i64 a0, .int .i64 a1] w fun e w' => e = .returned (.int .i64 r) ∧ Drawn0 w w' := by
  intro hG
  obtain rfl := Option.some.inj h
  by_cases h1 : a1 < 1
  · have e : Cv.len a0 a1 = 0 := Cv.len_out _ _ (.inl h1)
    have E := Lib.hid e
    clear e
    have : (a1 == 2) = false := by simp; omega
    go_enter Tryd.func39, Tryd.ntmps39
    go_wp2
    go_ret
    exact ⟨by rw [E.out]; rfl, Drawn0.refl _⟩
  · by_cases h2 : 12 < a1
    · have e : Cv.len a0 a1 = 0 := Cv.len_out _ _ (.inr h2)
      have E := Lib.hid e
      clear e
      have : (a1 == 2) = false := by simp; omega
      go_enter Tryd.func39, Tryd.ntmps39
      go_wp2
      go_ret
      exact ⟨by rw [E.out]; rfl, Drawn0.refl _⟩
    · have hm : a1 = 1 ∨ a1 = 2 ∨ a1 = 3 ∨ a1 = 4 ∨ a1 = 5 ∨ a1 = 6 ∨ a1 = 7 ∨ a1 = 8 ∨ a1 = 9 ∨ a1 = 10 ∨ a1 = 11 ∨ a1 = 12 := by omega
      clear h1 h2
      by_cases h2 : a1 = 2
      · subst h2
        have hL := Lib.hid (leap_b a0)
        have hl : Cv.len a0 2 = if Cv.leapB a0 = true then 29 else 28 := by simp [Cv.len, Cv.lp]; split <;> rfl
        have E := Lib.hid hl
        have hc := hG.at 1 (by decide)
        simp only [tab] at hc
        clear hl hm h
        go_enter Tryd.func39, Tryd.ntmps39
        go_wp2
        all_goals
          go_ret
          refine ⟨?_, Drawn0.refl _⟩
          rw [E.out, ← hL.out]
          simp [*]
      · have e : Cv.len a0 a1 = tab.getD (a1 - 1).toNat 0 := by
          rcases hm with h | h | h | h | h | h | h | h | h | h | h | h <;> subst h <;> first | rfl | (exact absurd rfl h2)
        have hc := hG.at (a1 - 1).toNat (by omega)
        have e2 : (a1 - 1).toNat = a1.toNat - 1 := by omega
        rw [e2] at hc e
        have E := Lib.hid e
        have b1 : 1 ≤ a1 := by omega
        have b2 : a1 ≤ 12 := by omega
        clear e e2 hm h
        have : (a1 == 2) = false := by simp; omega
        go_enter Tryd.func39, Tryd.ntmps39
        go_wp2
        go_ret
        exact ⟨by rw [E.out]; rfl, Drawn0.refl _⟩
end Go.Proofs.YtpmcmkobpjobbaaDoor.Hand
