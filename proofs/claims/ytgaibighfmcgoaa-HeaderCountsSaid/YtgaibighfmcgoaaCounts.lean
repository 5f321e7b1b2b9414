/- The walk of (*Header).counts: six pointers. -/
import Derived.Test.YtgaibighfmcgoaaProg
import Derived.WalkKit
import Derived.WalkSpells
import Derived.BigRegion
import Derived.StillTailTactics
import Derived.Below
import Derived.Outline
import Derived.Lib.Hide
namespace Go.Proofs.Ytgaibighfmcgoaa.Hand
open Go.RowKit
def six (b : Nat) : Value := .agg #[.pointer (some ⟨b, 1, none⟩), .pointer (some ⟨b, 2, none⟩), .pointer (some ⟨b, 3, none⟩), .pointer (some ⟨b, 4, none⟩), .pointer (some ⟨b, 5, none⟩), .pointer (some ⟨b, 6, none⟩)]
set_option maxHeartbeats 4000000 in
set_option maxRecDepth 100000 in
theorem counts_any (b : Nat) (w : World) :
    Calls Try.prog 19 #[.pointer (some ⟨b, 0, none⟩)] w fun e w' => e = .returned (six b) ∧ Below w.heap.size w w' := by
  unfold six
  go_enter Try.func19, Try.ntmps19
  go_wp2
  go_still_tail 19, (by kernel_rfl)
  change wpList _ _ _ _ _ (World.drew (w.alloc _))
  go_wp2
  refine bodyPost_ret (v := .agg #[.pointer (some ⟨b, 1, none⟩), .pointer (some ⟨b, 2, none⟩), .pointer (some ⟨b, 3, none⟩), .pointer (some ⟨b, 4, none⟩), .pointer (some ⟨b, 5, none⟩), .pointer (some ⟨b, 6, none⟩)]) (by simp [results, Try.results19, go_sem]) rfl ⟨rfl, ?_⟩
  exact ((Below.refl _ _).alloc (Nat.le_refl _) _).drew
end Go.Proofs.Ytgaibighfmcgoaa.Hand
