/-
  No cell of these rows narrows 'for every input' (looked for: loops, veiled, ifaces, maps, wideKeys, modest, calm, conditions, laid).
  DERIVED. THE GIVEN ROWS OF THIS SEAT. 8 by the template 'for every input the law returns true; each argument reads behind the call as it read before'; 0 by the template 'total and deterministic' (their statements: YthobnoknbdljgaaTotals.lean).
  GIVEN WITH THE SEED: the statements are not yours to turn. If you find one false, say at which input.
  Laid BY PROGRAM, IN A SANDBOX (cutbox-rows.mjs): the forced cells as the released guide's own fill.sh prints them over the translation a48aae4ed3e96f02… (all of the seat's roots in one cut). By AI agents, Wed Nov 11 2026. No macro, syntax, notation, axiom, sorry.
-/
import Derived.Test.YthobnoknbdljgaaChecked
import GoSem.Claim
import GoSem.ClaimJoined
import GoSem.ClaimMapViews
import Derived.JoinedTies
import Derived.KernelRfl
namespace Go.Proofs.Ythobnoknbdljgaa
/- THE CELL 'sum', in the pinned program and in every row, IS THE sha256 OF THE DUMP (.gsa) THAT YthobnoknbdljgaaProg.lean LOADS. Nothing in Lean hashes anything: it is a label: what it is worth is what the hold of that sum in a sandbox is worth. -/
noncomputable def Try.pinned : Pinned := { name := "ythobnoknbdljgaa", sum := "a48aae4ed3e96f02ac5f2c198799c812c8ad9e5cea797292c48dc061e5ca387a", checked := Try.checked }
namespace Rows
def none {H : Type} : Left H := { results := [], args := [] }

/-- 'longcaselaw06.BlockTells': WHATEVER THE INPUT: true; the input reads as it did. -/
def blockTellsSpec : ChangeSpec := { name := "blockTells", fn := fun _ => fun
  | [d1, d2, d3] => { results := [.lit (.bool true)], args := [d1, d2, d3] }
  | _ => none }
def blockTellsRow : OpenClaim := { program := "ythobnoknbdljgaa", sum := "a48aae4ed3e96f02ac5f2c198799c812c8ad9e5cea797292c48dc061e5ca387a", func := "longcase/longcaselaw06.BlockTells", spec := "blockTells", inPlace := ["internal/bytealg.IndexByteString", "internal/bytealg.IndexString", "internal/abi.NoEscape", "internal/bytealg.IndexByte", "internal/bytealg.Index"], named := ["internal/bytealg.MaxLen"], apart := false }
def BlockTellsSaid : Prop := blockTellsRow.holds Try.pinned (OpenSpec.ofChange blockTellsSpec)

/-- ITS FALSE NEIGHBOUR: 'it returns false'. Refute it at one input. -/
def blockTellsWrong : ChangeSpec := { name := "blockTells", fn := fun _ => fun
  | [d1, d2, d3] => { results := [.lit (.bool false)], args := [d1, d2, d3] }
  | _ => none }
def BlockTellsWrongFalsely : Prop := blockTellsRow.holds Try.pinned (OpenSpec.ofChange blockTellsWrong)

/-- 'longcaselaw06.BlockReads': WHATEVER THE INPUT: true; the input reads as it did. -/
def blockReadsSpec : ChangeSpec := { name := "blockReads", fn := fun _ => fun
  | [d1, d2, d3] => { results := [.lit (.bool true)], args := [d1, d2, d3] }
  | _ => none }
def blockReadsRow : OpenClaim := { program := "ythobnoknbdljgaa", sum := "a48aae4ed3e96f02ac5f2c198799c812c8ad9e5cea797292c48dc061e5ca387a", func := "longcase/longcaselaw06.BlockReads", spec := "blockReads", inPlace := ["internal/bytealg.IndexByteString", "internal/bytealg.IndexString", "internal/abi.NoEscape", "internal/bytealg.IndexByte", "internal/bytealg.Index"], named := ["internal/bytealg.MaxLen"], apart := false }
def BlockReadsSaid : Prop := blockReadsRow.holds Try.pinned (OpenSpec.ofChange blockReadsSpec)

/-- ITS FALSE NEIGHBOUR: 'it returns false'. Refute it at one input. -/
def blockReadsWrong : ChangeSpec := { name := "blockReads", fn := fun _ => fun
  | [d1, d2, d3] => { results := [.lit (.bool false)], args := [d1, d2, d3] }
  | _ => none }
def BlockReadsWrongFalsely : Prop := blockReadsRow.holds Try.pinned (OpenSpec.ofChange blockReadsWrong)

/-- 'longcaselaw06.BlockBack': WHATEVER THE INPUT: true; the input reads as it did. -/
def blockBackSpec : ChangeSpec := { name := "blockBack", fn := fun _ => fun
  | [d1, d2, d3, d4] => { results := [.lit (.bool true)], args := [d1, d2, d3, d4] }
  | _ => none }
def blockBackRow : OpenClaim := { program := "ythobnoknbdljgaa", sum := "a48aae4ed3e96f02ac5f2c198799c812c8ad9e5cea797292c48dc061e5ca387a", func := "longcase/longcaselaw06.BlockBack", spec := "blockBack", inPlace := ["internal/bytealg.IndexByteString", "internal/bytealg.IndexString", "internal/abi.NoEscape", "internal/bytealg.IndexByte", "internal/bytealg.Index"], named := ["internal/bytealg.MaxLen"], apart := false }
def BlockBackSaid : Prop := blockBackRow.holds Try.pinned (OpenSpec.ofChange blockBackSpec)

/-- ITS FALSE NEIGHBOUR: 'it returns false'. Refute it at one input. -/
def blockBackWrong : ChangeSpec := { name := "blockBack", fn := fun _ => fun
  | [d1, d2, d3, d4] => { results := [.lit (.bool false)], args := [d1, d2, d3, d4] }
  | _ => none }
def BlockBackWrongFalsely : Prop := blockBackRow.holds Try.pinned (OpenSpec.ofChange blockBackWrong)

/-- 'longcaselaw06.BlockWide': WHATEVER THE INPUT: true; the input reads as it did. -/
def blockWideSpec : ChangeSpec := { name := "blockWide", fn := fun _ => fun
  | [d1, d2] => { results := [.lit (.bool true)], args := [d1, d2] }
  | _ => none }
def blockWideRow : OpenClaim := { program := "ythobnoknbdljgaa", sum := "a48aae4ed3e96f02ac5f2c198799c812c8ad9e5cea797292c48dc061e5ca387a", func := "longcase/longcaselaw06.BlockWide", spec := "blockWide", inPlace := ["internal/bytealg.IndexByteString", "internal/bytealg.IndexString", "internal/abi.NoEscape", "internal/bytealg.IndexByte", "internal/bytealg.Index"], named := ["internal/bytealg.MaxLen"], apart := false }
def BlockWideSaid : Prop := blockWideRow.holds Try.pinned (OpenSpec.ofChange blockWideSpec)

/-- ITS FALSE NEIGHBOUR: 'it returns false'. Refute it at one input. -/
def blockWideWrong : ChangeSpec := { name := "blockWide", fn := fun _ => fun
  | [d1, d2] => { results := [.lit (.bool false)], args := [d1, d2] }
  | _ => none }
def BlockWideWrongFalsely : Prop := blockWideRow.holds Try.pinned (OpenSpec.ofChange blockWideWrong)

/-- 'longcaselaw06.BlockRules': WHATEVER THE INPUT: true; the input reads as it did. -/
def blockRulesSpec : ChangeSpec := { name := "blockRules", fn := fun _ => fun
  | [d1, d2] => { results := [.lit (.bool true)], args := [d1, d2] }
  | _ => none }
def blockRulesRow : OpenClaim := { program := "ythobnoknbdljgaa", sum := "a48aae4ed3e96f02ac5f2c198799c812c8ad9e5cea797292c48dc061e5ca387a", func := "longcase/longcaselaw06.BlockRules", spec := "blockRules", inPlace := ["internal/bytealg.IndexByteString", "internal/bytealg.IndexString", "internal/abi.NoEscape", "internal/bytealg.IndexByte", "internal/bytealg.Index"], named := ["internal/bytealg.MaxLen"], apart := false }
def BlockRulesSaid : Prop := blockRulesRow.holds Try.pinned (OpenSpec.ofChange blockRulesSpec)

/-- ITS FALSE NEIGHBOUR: 'it returns false'. Refute it at one input. -/
def blockRulesWrong : ChangeSpec := { name := "blockRules", fn := fun _ => fun
  | [d1, d2] => { results := [.lit (.bool false)], args := [d1, d2] }
  | _ => none }
def BlockRulesWrongFalsely : Prop := blockRulesRow.holds Try.pinned (OpenSpec.ofChange blockRulesWrong)

/-- 'longcaselaw06.BlockOnce': WHATEVER THE INPUT: true; the input reads as it did. -/
def blockOnceSpec : ChangeSpec := { name := "blockOnce", fn := fun _ => fun
  | [d1, d2, d3] => { results := [.lit (.bool true)], args := [d1, d2, d3] }
  | _ => none }
def blockOnceRow : OpenClaim := { program := "ythobnoknbdljgaa", sum := "a48aae4ed3e96f02ac5f2c198799c812c8ad9e5cea797292c48dc061e5ca387a", func := "longcase/longcaselaw06.BlockOnce", spec := "blockOnce", inPlace := ["internal/bytealg.IndexByteString", "internal/bytealg.IndexString", "internal/abi.NoEscape", "internal/bytealg.IndexByte", "internal/bytealg.Index"], named := ["internal/bytealg.MaxLen"], apart := false }
def BlockOnceSaid : Prop := blockOnceRow.holds Try.pinned (OpenSpec.ofChange blockOnceSpec)

/-- ITS FALSE NEIGHBOUR: 'it returns false'. Refute it at one input. -/
def blockOnceWrong : ChangeSpec := { name := "blockOnce", fn := fun _ => fun
  | [d1, d2, d3] => { results := [.lit (.bool false)], args := [d1, d2, d3] }
  | _ => none }
def BlockOnceWrongFalsely : Prop := blockOnceRow.holds Try.pinned (OpenSpec.ofChange blockOnceWrong)

/-- 'longcaselaw06.BlockNames': WHATEVER THE INPUT: true; the input reads as it did. -/
def blockNamesSpec : ChangeSpec := { name := "blockNames", fn := fun _ => fun
  | [d] => { results := [.lit (.bool true)], args := [d] }
  | _ => none }
def blockNamesRow : OpenClaim := { program := "ythobnoknbdljgaa", sum := "a48aae4ed3e96f02ac5f2c198799c812c8ad9e5cea797292c48dc061e5ca387a", func := "longcase/longcaselaw06.BlockNames", spec := "blockNames", inPlace := ["internal/bytealg.IndexByteString", "internal/bytealg.IndexString", "internal/abi.NoEscape", "internal/bytealg.IndexByte", "internal/bytealg.Index"], named := ["internal/bytealg.MaxLen"], apart := false }
def BlockNamesSaid : Prop := blockNamesRow.holds Try.pinned (OpenSpec.ofChange blockNamesSpec)

/-- ITS FALSE NEIGHBOUR: 'it returns false'. Refute it at one input. -/
def blockNamesWrong : ChangeSpec := { name := "blockNames", fn := fun _ => fun
  | [d] => { results := [.lit (.bool false)], args := [d] }
  | _ => none }
def BlockNamesWrongFalsely : Prop := blockNamesRow.holds Try.pinned (OpenSpec.ofChange blockNamesWrong)

/-- 'longcaselaw06.BlockMarks': WHATEVER THE INPUT: true; the input reads as it did. -/
def blockMarksSpec : ChangeSpec := { name := "blockMarks", fn := fun _ => fun
  | [d1, d2, d3] => { results := [.lit (.bool true)], args := [d1, d2, d3] }
  | _ => none }
def blockMarksRow : OpenClaim := { program := "ythobnoknbdljgaa", sum := "a48aae4ed3e96f02ac5f2c198799c812c8ad9e5cea797292c48dc061e5ca387a", func := "longcase/longcaselaw06.BlockMarks", spec := "blockMarks", inPlace := ["internal/bytealg.IndexByteString", "internal/bytealg.IndexString", "internal/abi.NoEscape", "internal/bytealg.IndexByte", "internal/bytealg.Index"], named := ["internal/bytealg.MaxLen"], apart := false }
def BlockMarksSaid : Prop := blockMarksRow.holds Try.pinned (OpenSpec.ofChange blockMarksSpec)

/-- ITS FALSE NEIGHBOUR: 'it returns false'. Refute it at one input. -/
def blockMarksWrong : ChangeSpec := { name := "blockMarks", fn := fun _ => fun
  | [d1, d2, d3] => { results := [.lit (.bool false)], args := [d1, d2, d3] }
  | _ => none }
def BlockMarksWrongFalsely : Prop := blockMarksRow.holds Try.pinned (OpenSpec.ofChange blockMarksWrong)

/- THE SECOND FORM. 'bulk': how many values and letters a reading holds, each counted each time it is reached (what is shared counts as often as it is met; a slice's spare places count too). A statement '..UptoSaid' is the law's where the arguments, and the package variables that the reading takes, are together of bulk at most 1048576: NARROWER than '..Said'. Prove '..Said' where nothing that the law and all that it calls make is longer than what came in: it says more and counts as full. Else prove '..UptoSaid'. A law counts once. -/
mutual
def uptoBulk {H : Type} : DataW H → Nat
  | .lit (.string bytes) => bytes.length + 1
  | .lit _ => 1
  | .nil => 1
  | .ptr d => uptoBulk d + 1
  | .slice elems spare => uptoBulkAll elems + uptoBulkAll spare + 1
  | .agg parts => uptoBulkAll parts + 1
  | .iface _ d => uptoBulk d + 1
  | .map entries => uptoBulkEntries entries + 1
  | .held _ => 1
def uptoBulkAll {H : Type} : List (DataW H) → Nat
  | [] => 0
  | d :: r => uptoBulk d + uptoBulkAll r
def uptoBulkEntries {H : Type} : List (Lit × DataW H) → Nat
  | [] => 0
  | x :: r => uptoBulkEntry x + uptoBulkEntries r
def uptoBulkEntry {H : Type} : Lit × DataW H → Nat
  | (.string bytes, d) => bytes.length + uptoBulk d + 1
  | (_, d) => uptoBulk d + 1
 end
def uptoSmall : (H : Type) → List (DataW H) → Bool := fun _ ds => decide (uptoBulkAll ds ≤ 1048576)
def OpenSpec.upto (s : _root_.Go.ChangeSpec) : _root_.Go.OpenSpec := { _root_.Go.OpenSpec.ofChange s with cond := some uptoSmall }

/-- 'longcaselaw06.BlockTells', WHERE WHAT IT READS IS OF BULK AT MOST 1048576: true; the input reads as it did. -/
def blockTellsUptoRow : OpenClaim := { program := "ythobnoknbdljgaa", sum := "a48aae4ed3e96f02ac5f2c198799c812c8ad9e5cea797292c48dc061e5ca387a", func := "longcase/longcaselaw06.BlockTells", spec := "blockTells", inPlace := ["internal/bytealg.IndexByteString", "internal/bytealg.IndexString", "internal/abi.NoEscape", "internal/bytealg.IndexByte", "internal/bytealg.Index"], named := ["internal/bytealg.MaxLen"], apart := false, narrowed := true }
def BlockTellsUptoSaid : Prop := blockTellsUptoRow.holds Try.pinned (OpenSpec.upto blockTellsSpec)

/-- 'longcaselaw06.BlockReads', WHERE WHAT IT READS IS OF BULK AT MOST 1048576: true; the input reads as it did. -/
def blockReadsUptoRow : OpenClaim := { program := "ythobnoknbdljgaa", sum := "a48aae4ed3e96f02ac5f2c198799c812c8ad9e5cea797292c48dc061e5ca387a", func := "longcase/longcaselaw06.BlockReads", spec := "blockReads", inPlace := ["internal/bytealg.IndexByteString", "internal/bytealg.IndexString", "internal/abi.NoEscape", "internal/bytealg.IndexByte", "internal/bytealg.Index"], named := ["internal/bytealg.MaxLen"], apart := false, narrowed := true }
def BlockReadsUptoSaid : Prop := blockReadsUptoRow.holds Try.pinned (OpenSpec.upto blockReadsSpec)

/-- 'longcaselaw06.BlockBack', WHERE WHAT IT READS IS OF BULK AT MOST 1048576: true; the input reads as it did. -/
def blockBackUptoRow : OpenClaim := { program := "ythobnoknbdljgaa", sum := "a48aae4ed3e96f02ac5f2c198799c812c8ad9e5cea797292c48dc061e5ca387a", func := "longcase/longcaselaw06.BlockBack", spec := "blockBack", inPlace := ["internal/bytealg.IndexByteString", "internal/bytealg.IndexString", "internal/abi.NoEscape", "internal/bytealg.IndexByte", "internal/bytealg.Index"], named := ["internal/bytealg.MaxLen"], apart := false, narrowed := true }
def BlockBackUptoSaid : Prop := blockBackUptoRow.holds Try.pinned (OpenSpec.upto blockBackSpec)

/-- 'longcaselaw06.BlockWide', WHERE WHAT IT READS IS OF BULK AT MOST 1048576: true; the input reads as it did. -/
def blockWideUptoRow : OpenClaim := { program := "ythobnoknbdljgaa", sum := "a48aae4ed3e96f02ac5f2c198799c812c8ad9e5cea797292c48dc061e5ca387a", func := "longcase/longcaselaw06.BlockWide", spec := "blockWide", inPlace := ["internal/bytealg.IndexByteString", "internal/bytealg.IndexString", "internal/abi.NoEscape", "internal/bytealg.IndexByte", "internal/bytealg.Index"], named := ["internal/bytealg.MaxLen"], apart := false, narrowed := true }
def BlockWideUptoSaid : Prop := blockWideUptoRow.holds Try.pinned (OpenSpec.upto blockWideSpec)

/-- 'longcaselaw06.BlockRules', WHERE WHAT IT READS IS OF BULK AT MOST 1048576: true; the input reads as it did. -/
def blockRulesUptoRow : OpenClaim := { program := "ythobnoknbdljgaa", sum := "a48aae4ed3e96f02ac5f2c198799c812c8ad9e5cea797292c48dc061e5ca387a", func := "longcase/longcaselaw06.BlockRules", spec := "blockRules", inPlace := ["internal/bytealg.IndexByteString", "internal/bytealg.IndexString", "internal/abi.NoEscape", "internal/bytealg.IndexByte", "internal/bytealg.Index"], named := ["internal/bytealg.MaxLen"], apart := false, narrowed := true }
def BlockRulesUptoSaid : Prop := blockRulesUptoRow.holds Try.pinned (OpenSpec.upto blockRulesSpec)

/-- 'longcaselaw06.BlockOnce', WHERE WHAT IT READS IS OF BULK AT MOST 1048576: true; the input reads as it did. -/
def blockOnceUptoRow : OpenClaim := { program := "ythobnoknbdljgaa", sum := "a48aae4ed3e96f02ac5f2c198799c812c8ad9e5cea797292c48dc061e5ca387a", func := "longcase/longcaselaw06.BlockOnce", spec := "blockOnce", inPlace := ["internal/bytealg.IndexByteString", "internal/bytealg.IndexString", "internal/abi.NoEscape", "internal/bytealg.IndexByte", "internal/bytealg.Index"], named := ["internal/bytealg.MaxLen"], apart := false, narrowed := true }
def BlockOnceUptoSaid : Prop := blockOnceUptoRow.holds Try.pinned (OpenSpec.upto blockOnceSpec)

/-- 'longcaselaw06.BlockNames', WHERE WHAT IT READS IS OF BULK AT MOST 1048576: true; the input reads as it did. -/
def blockNamesUptoRow : OpenClaim := { program := "ythobnoknbdljgaa", sum := "a48aae4ed3e96f02ac5f2c198799c812c8ad9e5cea797292c48dc061e5ca387a", func := "longcase/longcaselaw06.BlockNames", spec := "blockNames", inPlace := ["internal/bytealg.IndexByteString", "internal/bytealg.IndexString", "internal/abi.NoEscape", "internal/bytealg.IndexByte", "internal/bytealg.Index"], named := ["internal/bytealg.MaxLen"], apart := false, narrowed := true }
def BlockNamesUptoSaid : Prop := blockNamesUptoRow.holds Try.pinned (OpenSpec.upto blockNamesSpec)

/-- 'longcaselaw06.BlockMarks', WHERE WHAT IT READS IS OF BULK AT MOST 1048576: true; the input reads as it did. -/
def blockMarksUptoRow : OpenClaim := { program := "ythobnoknbdljgaa", sum := "a48aae4ed3e96f02ac5f2c198799c812c8ad9e5cea797292c48dc061e5ca387a", func := "longcase/longcaselaw06.BlockMarks", spec := "blockMarks", inPlace := ["internal/bytealg.IndexByteString", "internal/bytealg.IndexString", "internal/abi.NoEscape", "internal/bytealg.IndexByte", "internal/bytealg.Index"], named := ["internal/bytealg.MaxLen"], apart := false, narrowed := true }
def BlockMarksUptoSaid : Prop := blockMarksUptoRow.holds Try.pinned (OpenSpec.upto blockMarksSpec)

end Rows
end Go.Proofs.Ythobnoknbdljgaa
