/- What the row's condition on the listed table gives the walks: the twelve cells of block 0. -/
import Derived.Test.YtmkmopphdkgjeaaDoorRows
import Derived.Test.YtmkmopphdkgjeaaDoorHand
import Derived.Lib.LaidTab
import Derived.MakeChecks
namespace Go.Proofs.YtmkmopphdkgjeaaDoor.Laid
open Go Hand
abbrev laidL : List (String × DataW Unit) := [("longcase/civil.lengths", Rows.laid_longcase_civil_lengths)]
theorem glob_of {W : World} (h : laidMetH Tryd.prog laidL W) : Glob W := by
  rw [MakeChecks.laidMetH_plain _ _ _ (by kernel_rfl)] at h
  have ht : Lib.TabIs Tryd.prog W "longcase/civil.lengths" .i64 tab :=
    Lib.tabIs_of_head (P := Tryd.prog) (rest := []) (g := 0) (t := 47) (e := 3) (n := 12) (by kernel_rfl) (by kernel_rfl) Tryd.underlying47 Tryd.underlying3 (by kernel_rfl) (by kernel_rfl) h
  have hc : ∀ i, i < 12 → W.cell? ⟨0, i, none⟩ = some (.int .i64 (tab.getD i 0)) := by
    intro i hi
    have := World.var?_cell (P := Tryd.prog) (show Tryd.prog.globalNamed "longcase/civil.lengths" = some 0 by kernel_rfl) ht i
    rw [this]
    have hc : i = 0 ∨ i = 1 ∨ i = 2 ∨ i = 3 ∨ i = 4 ∨ i = 5 ∨ i = 6 ∨ i = 7 ∨ i = 8 ∨ i = 9 ∨ i = 10 ∨ i = 11 := by omega
    rcases hc with h | h | h | h | h | h | h | h | h | h | h | h <;> subst h <;> rfl
  refine ⟨?_, hc⟩
  have h0 := hc 0 (by omega)
  by_cases hz : 0 < W.heap.size
  · exact hz
  · have : W.heap.size = 0 := by omega
    have hn : W.heap = #[] := Array.size_eq_zero_iff.1 this
    simp [World.cell?, hn] at h0
end Go.Proofs.YtmkmopphdkgjeaaDoor.Laid
