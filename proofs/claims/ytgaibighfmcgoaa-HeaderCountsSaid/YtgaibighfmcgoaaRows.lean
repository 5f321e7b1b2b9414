/-
  No cell of these rows narrows 'for every input' (looked for: loops, veiled, ifaces, maps, wideKeys, modest, calm, conditions, laid).
  DERIVED. THE GIVEN ROWS OF THIS SEAT. 6 by the template 'for every input the law returns true; each argument reads behind the call as it read before'; 0 by the template 'total and deterministic' (their statements: YtgaibighfmcgoaaTotals.lean).
  GIVEN WITH THE SEED: the statements are not yours to turn. If you find one false, say at which input.
  Laid BY PROGRAM, IN A SANDBOX (cutbox-rows.mjs): the forced cells as the released guide's own fill.sh prints them over the translation 0a4123404dc7b4db… (all of the seat's roots in one cut). By AI agents, Wed Nov 11 2026. No macro, syntax, notation, axiom, sorry.
-/
import Derived.Test.YtgaibighfmcgoaaChecked
import GoSem.Claim
import GoSem.ClaimJoined
import GoSem.ClaimMapViews
import Derived.JoinedTies
import Derived.KernelRfl
namespace Go.Proofs.Ytgaibighfmcgoaa
/- THE CELL 'sum', in the pinned program and in every row, IS THE sha256 OF THE DUMP (.gsa) THAT YtgaibighfmcgoaaProg.lean LOADS. Nothing in Lean hashes anything: it is a label: what it is worth is what the hold of that sum in a sandbox is worth. -/
noncomputable def Try.pinned : Pinned := { name := "ytgaibighfmcgoaa", sum := "0a4123404dc7b4db4d039143394d7958ceeb976811289b61a7a7291217bd3ab5", checked := Try.checked }
namespace Rows
def none {H : Type} : Left H := { results := [], args := [] }

/-- 'longcaselaw05.HeaderTells': WHATEVER THE INPUT: true; the input reads as it did. -/
def headerTellsSpec : ChangeSpec := { name := "headerTells", fn := fun _ => fun
  | [d] => { results := [.lit (.bool true)], args := [d] }
  | _ => none }
def headerTellsRow : OpenClaim := { program := "ytgaibighfmcgoaa", sum := "0a4123404dc7b4db4d039143394d7958ceeb976811289b61a7a7291217bd3ab5", func := "longcase/longcaselaw05.HeaderTells", spec := "headerTells", apart := false }
def HeaderTellsSaid : Prop := headerTellsRow.holds Try.pinned (OpenSpec.ofChange headerTellsSpec)

/-- ITS FALSE NEIGHBOUR: 'it returns false'. Refute it at one input. -/
def headerTellsWrong : ChangeSpec := { name := "headerTells", fn := fun _ => fun
  | [d] => { results := [.lit (.bool false)], args := [d] }
  | _ => none }
def HeaderTellsWrongFalsely : Prop := headerTellsRow.holds Try.pinned (OpenSpec.ofChange headerTellsWrong)

/-- 'longcaselaw05.HeaderReads': WHATEVER THE INPUT: true; the input reads as it did. -/
def headerReadsSpec : ChangeSpec := { name := "headerReads", fn := fun _ => fun
  | [d] => { results := [.lit (.bool true)], args := [d] }
  | _ => none }
def headerReadsRow : OpenClaim := { program := "ytgaibighfmcgoaa", sum := "0a4123404dc7b4db4d039143394d7958ceeb976811289b61a7a7291217bd3ab5", func := "longcase/longcaselaw05.HeaderReads", spec := "headerReads", apart := false }
def HeaderReadsSaid : Prop := headerReadsRow.holds Try.pinned (OpenSpec.ofChange headerReadsSpec)

/-- ITS FALSE NEIGHBOUR: 'it returns false'. Refute it at one input. -/
def headerReadsWrong : ChangeSpec := { name := "headerReads", fn := fun _ => fun
  | [d] => { results := [.lit (.bool false)], args := [d] }
  | _ => none }
def HeaderReadsWrongFalsely : Prop := headerReadsRow.holds Try.pinned (OpenSpec.ofChange headerReadsWrong)

/-- 'longcaselaw05.HeaderBack': WHATEVER THE INPUT: true; the input reads as it did. -/
def headerBackSpec : ChangeSpec := { name := "headerBack", fn := fun _ => fun
  | [d1, d2] => { results := [.lit (.bool true)], args := [d1, d2] }
  | _ => none }
def headerBackRow : OpenClaim := { program := "ytgaibighfmcgoaa", sum := "0a4123404dc7b4db4d039143394d7958ceeb976811289b61a7a7291217bd3ab5", func := "longcase/longcaselaw05.HeaderBack", spec := "headerBack", apart := false }
def HeaderBackSaid : Prop := headerBackRow.holds Try.pinned (OpenSpec.ofChange headerBackSpec)

/-- ITS FALSE NEIGHBOUR: 'it returns false'. Refute it at one input. -/
def headerBackWrong : ChangeSpec := { name := "headerBack", fn := fun _ => fun
  | [d1, d2] => { results := [.lit (.bool false)], args := [d1, d2] }
  | _ => none }
def HeaderBackWrongFalsely : Prop := headerBackRow.holds Try.pinned (OpenSpec.ofChange headerBackWrong)

/-- 'longcaselaw05.HeaderWrong': WHATEVER THE INPUT: true; the input reads as it did. -/
def headerWrongSpec : ChangeSpec := { name := "headerWrong", fn := fun _ => fun
  | [d1, d2, d3, d4] => { results := [.lit (.bool true)], args := [d1, d2, d3, d4] }
  | _ => none }
def headerWrongRow : OpenClaim := { program := "ytgaibighfmcgoaa", sum := "0a4123404dc7b4db4d039143394d7958ceeb976811289b61a7a7291217bd3ab5", func := "longcase/longcaselaw05.HeaderWrong", spec := "headerWrong", apart := false }
def HeaderWrongSaid : Prop := headerWrongRow.holds Try.pinned (OpenSpec.ofChange headerWrongSpec)

/-- ITS FALSE NEIGHBOUR: 'it returns false'. Refute it at one input. -/
def headerWrongWrong : ChangeSpec := { name := "headerWrong", fn := fun _ => fun
  | [d1, d2, d3, d4] => { results := [.lit (.bool false)], args := [d1, d2, d3, d4] }
  | _ => none }
def HeaderWrongWrongFalsely : Prop := headerWrongRow.holds Try.pinned (OpenSpec.ofChange headerWrongWrong)

/-- 'longcaselaw05.HeaderBodies': WHATEVER THE INPUT: true; the input reads as it did. -/
def headerBodiesSpec : ChangeSpec := { name := "headerBodies", fn := fun _ => fun
  | [d] => { results := [.lit (.bool true)], args := [d] }
  | _ => none }
def headerBodiesRow : OpenClaim := { program := "ytgaibighfmcgoaa", sum := "0a4123404dc7b4db4d039143394d7958ceeb976811289b61a7a7291217bd3ab5", func := "longcase/longcaselaw05.HeaderBodies", spec := "headerBodies", apart := false }
def HeaderBodiesSaid : Prop := headerBodiesRow.holds Try.pinned (OpenSpec.ofChange headerBodiesSpec)

/-- ITS FALSE NEIGHBOUR: 'it returns false'. Refute it at one input. -/
def headerBodiesWrong : ChangeSpec := { name := "headerBodies", fn := fun _ => fun
  | [d] => { results := [.lit (.bool false)], args := [d] }
  | _ => none }
def HeaderBodiesWrongFalsely : Prop := headerBodiesRow.holds Try.pinned (OpenSpec.ofChange headerBodiesWrong)

/-- 'longcaselaw05.HeaderCounts': WHATEVER THE INPUT: true; the input reads as it did. -/
def headerCountsSpec : ChangeSpec := { name := "headerCounts", fn := fun _ => fun
  | [d] => { results := [.lit (.bool true)], args := [d] }
  | _ => none }
def headerCountsRow : OpenClaim := { program := "ytgaibighfmcgoaa", sum := "0a4123404dc7b4db4d039143394d7958ceeb976811289b61a7a7291217bd3ab5", func := "longcase/longcaselaw05.HeaderCounts", spec := "headerCounts", apart := false }
def HeaderCountsSaid : Prop := headerCountsRow.holds Try.pinned (OpenSpec.ofChange headerCountsSpec)

/-- ITS FALSE NEIGHBOUR: 'it returns false'. Refute it at one input. -/
def headerCountsWrong : ChangeSpec := { name := "headerCounts", fn := fun _ => fun
  | [d] => { results := [.lit (.bool false)], args := [d] }
  | _ => none }
def HeaderCountsWrongFalsely : Prop := headerCountsRow.holds Try.pinned (OpenSpec.ofChange headerCountsWrong)

/- THE SECOND FORM. 'bulk': how many values and letters a reading holds, each counted each time it is reached (what is shared counts as often as it is met; a slice's spare places count too). A statement '..UptoSaid' is the law's where the arguments, and the package variables that the reading takes, are together of bulk at most 1048576: NARROWER than '..Said'. Prove '..Said' where nothing that the law and all that it calls make is longer than what came in: it says more and counts as full. Else prove '..UptoSaid'. A law counts once. -/
mutual
def uptoBulk {H : Type} : DataW H → Nat
  | .lit (.string bytes) => bytes.length + 1
  | .lit _ => 1
  | .nil => 1
  | .ptr d => uptoBulk d + 1
  | .slice elems spare => uptoBulkAll elems + uptoBulkAll spare + 1
  | .agg parts => uptoBulkAll parts + 1
  | .iface _ d => uptoBulk d + 1
  | .map entries => uptoBulkEntries entries + 1
  | .held _ => 1
def uptoBulkAll {H : Type} : List (DataW H) → Nat
  | [] => 0
  | d :: r => uptoBulk d + uptoBulkAll r
def uptoBulkEntries {H : Type} : List (Lit × DataW H) → Nat
  | [] => 0
  | x :: r => uptoBulkEntry x + uptoBulkEntries r
def uptoBulkEntry {H : Type} : Lit × DataW H → Nat
  | (.string bytes, d) => bytes.length + uptoBulk d + 1
  | (_, d) => uptoBulk d + 1
 end
def uptoSmall : (H : Type) → List (DataW H) → Bool := fun _ ds => decide (uptoBulkAll ds ≤ 1048576)
def OpenSpec.upto (s : _root_.Go.ChangeSpec) : _root_.Go.OpenSpec := { _root_.Go.OpenSpec.ofChange s with cond := some uptoSmall }

/-- 'longcaselaw05.HeaderTells', WHERE WHAT IT READS IS OF BULK AT MOST 1048576: true; the input reads as it did. -/
def headerTellsUptoRow : OpenClaim := { program := "ytgaibighfmcgoaa", sum := "0a4123404dc7b4db4d039143394d7958ceeb976811289b61a7a7291217bd3ab5", func := "longcase/longcaselaw05.HeaderTells", spec := "headerTells", apart := false, narrowed := true }
def HeaderTellsUptoSaid : Prop := headerTellsUptoRow.holds Try.pinned (OpenSpec.upto headerTellsSpec)

/-- 'longcaselaw05.HeaderReads', WHERE WHAT IT READS IS OF BULK AT MOST 1048576: true; the input reads as it did. -/
def headerReadsUptoRow : OpenClaim := { program := "ytgaibighfmcgoaa", sum := "0a4123404dc7b4db4d039143394d7958ceeb976811289b61a7a7291217bd3ab5", func := "longcase/longcaselaw05.HeaderReads", spec := "headerReads", apart := false, narrowed := true }
def HeaderReadsUptoSaid : Prop := headerReadsUptoRow.holds Try.pinned (OpenSpec.upto headerReadsSpec)

/-- 'longcaselaw05.HeaderBack', WHERE WHAT IT READS IS OF BULK AT MOST 1048576: true; the input reads as it did. -/
def headerBackUptoRow : OpenClaim := { program := "ytgaibighfmcgoaa", sum := "0a4123404dc7b4db4d039143394d7958ceeb976811289b61a7a7291217bd3ab5", func := "longcase/longcaselaw05.HeaderBack", spec := "headerBack", apart := false, narrowed := true }
def HeaderBackUptoSaid : Prop := headerBackUptoRow.holds Try.pinned (OpenSpec.upto headerBackSpec)

/-- 'longcaselaw05.HeaderWrong', WHERE WHAT IT READS IS OF BULK AT MOST 1048576: true; the input reads as it did. -/
def headerWrongUptoRow : OpenClaim := { program := "ytgaibighfmcgoaa", sum := "0a4123404dc7b4db4d039143394d7958ceeb976811289b61a7a7291217bd3ab5", func := "longcase/longcaselaw05.HeaderWrong", spec := "headerWrong", apart := false, narrowed := true }
def HeaderWrongUptoSaid : Prop := headerWrongUptoRow.holds Try.pinned (OpenSpec.upto headerWrongSpec)

/-- 'longcaselaw05.HeaderBodies', WHERE WHAT IT READS IS OF BULK AT MOST 1048576: true; the input reads as it did. -/
def headerBodiesUptoRow : OpenClaim := { program := "ytgaibighfmcgoaa", sum := "0a4123404dc7b4db4d039143394d7958ceeb976811289b61a7a7291217bd3ab5", func := "longcase/longcaselaw05.HeaderBodies", spec := "headerBodies", apart := false, narrowed := true }
def HeaderBodiesUptoSaid : Prop := headerBodiesUptoRow.holds Try.pinned (OpenSpec.upto headerBodiesSpec)

/-- 'longcaselaw05.HeaderCounts', WHERE WHAT IT READS IS OF BULK AT MOST 1048576: true; the input reads as it did. -/
def headerCountsUptoRow : OpenClaim := { program := "ytgaibighfmcgoaa", sum := "0a4123404dc7b4db4d039143394d7958ceeb976811289b61a7a7291217bd3ab5", func := "longcase/longcaselaw05.HeaderCounts", spec := "headerCounts", apart := false, narrowed := true }
def HeaderCountsUptoSaid : Prop := headerCountsUptoRow.holds Try.pinned (OpenSpec.upto headerCountsSpec)

end Rows
end Go.Proofs.Ytgaibighfmcgoaa
