/-
  No cell of these rows narrows 'for every input' (looked for: loops, veiled, ifaces, maps, wideKeys, modest, calm, conditions, laid).
  DERIVED. THE GIVEN ROWS OF THIS SEAT. 4 by the template 'for every input the law returns true; each argument reads behind the call as it read before'; 0 by the template 'total and deterministic' (their statements: YtgggjfclhjpboaaTotals.lean).
  GIVEN WITH THE SEED: the statements are not yours to turn. If you find one false, say at which input.
  Laid BY PROGRAM, IN A SANDBOX (cutbox-rows.mjs): the forced cells as the released guide's own fill.sh prints them over the translation 33837b245f368828… (all of the seat's roots in one cut). By AI agents, Wed Nov 11 2026. No macro, syntax, notation, axiom, sorry.
-/
import Derived.Test.YtgggjfclhjpboaaChecked
import GoSem.Claim
import GoSem.ClaimJoined
import GoSem.ClaimMapViews
import Derived.JoinedTies
import Derived.KernelRfl
namespace Go.Proofs.Ytgggjfclhjpboaa
/- THE CELL 'sum', in the pinned program and in every row, IS THE sha256 OF THE DUMP (.gsa) THAT YtgggjfclhjpboaaProg.lean LOADS. Nothing in Lean hashes anything: it is a label: what it is worth is what the hold of that sum in a sandbox is worth. -/
noncomputable def Try.pinned : Pinned := { name := "ytgggjfclhjpboaa", sum := "33837b245f3688280eb65fe0e6a1f562326ffbfac194dbcbb1859ee491f56cae", checked := Try.checked }
namespace Rows
def none {H : Type} : Left H := { results := [], args := [] }

/-- 'longcaselaw04.OctetsBack': WHATEVER THE INPUT: true; the input reads as it did. -/
def octetsBackSpec : ChangeSpec := { name := "octetsBack", fn := fun _ => fun
  | [d1, d2, d3, d4] => { results := [.lit (.bool true)], args := [d1, d2, d3, d4] }
  | _ => none }
def octetsBackRow : OpenClaim := { program := "ytgggjfclhjpboaa", sum := "33837b245f3688280eb65fe0e6a1f562326ffbfac194dbcbb1859ee491f56cae", func := "longcase/longcaselaw04.OctetsBack", spec := "octetsBack", inPlace := ["internal/bytealg.IndexByte", "internal/bytealg.Index"], named := ["internal/bytealg.MaxLen"], apart := false }
def OctetsBackSaid : Prop := octetsBackRow.holds Try.pinned (OpenSpec.ofChange octetsBackSpec)

/-- ITS FALSE NEIGHBOUR: 'it returns false'. Refute it at one input. -/
def octetsBackWrong : ChangeSpec := { name := "octetsBack", fn := fun _ => fun
  | [d1, d2, d3, d4] => { results := [.lit (.bool false)], args := [d1, d2, d3, d4] }
  | _ => none }
def OctetsBackWrongFalsely : Prop := octetsBackRow.holds Try.pinned (OpenSpec.ofChange octetsBackWrong)

/-- 'longcaselaw04.OctetsNames': WHATEVER THE INPUT: true; the input reads as it did. -/
def octetsNamesSpec : ChangeSpec := { name := "octetsNames", fn := fun _ => fun
  | [d1, d2, d3] => { results := [.lit (.bool true)], args := [d1, d2, d3] }
  | _ => none }
def octetsNamesRow : OpenClaim := { program := "ytgggjfclhjpboaa", sum := "33837b245f3688280eb65fe0e6a1f562326ffbfac194dbcbb1859ee491f56cae", func := "longcase/longcaselaw04.OctetsNames", spec := "octetsNames", inPlace := ["internal/bytealg.IndexByte", "internal/bytealg.Index"], named := ["internal/bytealg.MaxLen"], apart := false }
def OctetsNamesSaid : Prop := octetsNamesRow.holds Try.pinned (OpenSpec.ofChange octetsNamesSpec)

/-- ITS FALSE NEIGHBOUR: 'it returns false'. Refute it at one input. -/
def octetsNamesWrong : ChangeSpec := { name := "octetsNames", fn := fun _ => fun
  | [d1, d2, d3] => { results := [.lit (.bool false)], args := [d1, d2, d3] }
  | _ => none }
def OctetsNamesWrongFalsely : Prop := octetsNamesRow.holds Try.pinned (OpenSpec.ofChange octetsNamesWrong)

/-- 'longcaselaw04.OctetsSigns': WHATEVER THE INPUT: true; the input reads as it did. -/
def octetsSignsSpec : ChangeSpec := { name := "octetsSigns", fn := fun _ => fun
  | [d] => { results := [.lit (.bool true)], args := [d] }
  | _ => none }
def octetsSignsRow : OpenClaim := { program := "ytgggjfclhjpboaa", sum := "33837b245f3688280eb65fe0e6a1f562326ffbfac194dbcbb1859ee491f56cae", func := "longcase/longcaselaw04.OctetsSigns", spec := "octetsSigns", inPlace := ["internal/bytealg.IndexByte", "internal/bytealg.Index"], named := ["internal/bytealg.MaxLen"], apart := false }
def OctetsSignsSaid : Prop := octetsSignsRow.holds Try.pinned (OpenSpec.ofChange octetsSignsSpec)

/-- ITS FALSE NEIGHBOUR: 'it returns false'. Refute it at one input. -/
def octetsSignsWrong : ChangeSpec := { name := "octetsSigns", fn := fun _ => fun
  | [d] => { results := [.lit (.bool false)], args := [d] }
  | _ => none }
def OctetsSignsWrongFalsely : Prop := octetsSignsRow.holds Try.pinned (OpenSpec.ofChange octetsSignsWrong)

/-- 'longcaselaw04.OctetsParts': WHATEVER THE INPUT: true; the input reads as it did. -/
def octetsPartsSpec : ChangeSpec := { name := "octetsParts", fn := fun _ => fun
  | [d1, d2] => { results := [.lit (.bool true)], args := [d1, d2] }
  | _ => none }
def octetsPartsRow : OpenClaim := { program := "ytgggjfclhjpboaa", sum := "33837b245f3688280eb65fe0e6a1f562326ffbfac194dbcbb1859ee491f56cae", func := "longcase/longcaselaw04.OctetsParts", spec := "octetsParts", inPlace := ["internal/bytealg.IndexByte", "internal/bytealg.Index"], named := ["internal/bytealg.MaxLen"], apart := false }
def OctetsPartsSaid : Prop := octetsPartsRow.holds Try.pinned (OpenSpec.ofChange octetsPartsSpec)

/-- ITS FALSE NEIGHBOUR: 'it returns false'. Refute it at one input. -/
def octetsPartsWrong : ChangeSpec := { name := "octetsParts", fn := fun _ => fun
  | [d1, d2] => { results := [.lit (.bool false)], args := [d1, d2] }
  | _ => none }
def OctetsPartsWrongFalsely : Prop := octetsPartsRow.holds Try.pinned (OpenSpec.ofChange octetsPartsWrong)

/- THE SECOND FORM. 'bulk': how many values and letters a reading holds, each counted each time it is reached (what is shared counts as often as it is met; a slice's spare places count too). A statement '..UptoSaid' is the law's where the arguments, and the package variables that the reading takes, are together of bulk at most 1048576: NARROWER than '..Said'. Prove '..Said' where nothing that the law and all that it calls make is longer than what came in: it says more and counts as full. Else prove '..UptoSaid'. A law counts once. -/
mutual
def uptoBulk {H : Type} : DataW H → Nat
  | .lit (.string bytes) => bytes.length + 1
  | .lit _ => 1
  | .nil => 1
  | .ptr d => uptoBulk d + 1
  | .slice elems spare => uptoBulkAll elems + uptoBulkAll spare + 1
  | .agg parts => uptoBulkAll parts + 1
  | .iface _ d => uptoBulk d + 1
  | .map entries => uptoBulkEntries entries + 1
  | .held _ => 1
def uptoBulkAll {H : Type} : List (DataW H) → Nat
  | [] => 0
  | d :: r => uptoBulk d + uptoBulkAll r
def uptoBulkEntries {H : Type} : List (Lit × DataW H) → Nat
  | [] => 0
  | x :: r => uptoBulkEntry x + uptoBulkEntries r
def uptoBulkEntry {H : Type} : Lit × DataW H → Nat
  | (.string bytes, d) => bytes.length + uptoBulk d + 1
  | (_, d) => uptoBulk d + 1
 end
def uptoSmall : (H : Type) → List (DataW H) → Bool := fun _ ds => decide (uptoBulkAll ds ≤ 1048576)
def OpenSpec.upto (s : _root_.Go.ChangeSpec) : _root_.Go.OpenSpec := { _root_.Go.OpenSpec.ofChange s with cond := some uptoSmall }

/-- 'longcaselaw04.OctetsBack', WHERE WHAT IT READS IS OF BULK AT MOST 1048576: true; the input reads as it did. -/
def octetsBackUptoRow : OpenClaim := { program := "ytgggjfclhjpboaa", sum := "33837b245f3688280eb65fe0e6a1f562326ffbfac194dbcbb1859ee491f56cae", func := "longcase/longcaselaw04.OctetsBack", spec := "octetsBack", inPlace := ["internal/bytealg.IndexByte", "internal/bytealg.Index"], named := ["internal/bytealg.MaxLen"], apart := false, narrowed := true }
def OctetsBackUptoSaid : Prop := octetsBackUptoRow.holds Try.pinned (OpenSpec.upto octetsBackSpec)

/-- 'longcaselaw04.OctetsNames', WHERE WHAT IT READS IS OF BULK AT MOST 1048576: true; the input reads as it did. -/
def octetsNamesUptoRow : OpenClaim := { program := "ytgggjfclhjpboaa", sum := "33837b245f3688280eb65fe0e6a1f562326ffbfac194dbcbb1859ee491f56cae", func := "longcase/longcaselaw04.OctetsNames", spec := "octetsNames", inPlace := ["internal/bytealg.IndexByte", "internal/bytealg.Index"], named := ["internal/bytealg.MaxLen"], apart := false, narrowed := true }
def OctetsNamesUptoSaid : Prop := octetsNamesUptoRow.holds Try.pinned (OpenSpec.upto octetsNamesSpec)

/-- 'longcaselaw04.OctetsSigns', WHERE WHAT IT READS IS OF BULK AT MOST 1048576: true; the input reads as it did. -/
def octetsSignsUptoRow : OpenClaim := { program := "ytgggjfclhjpboaa", sum := "33837b245f3688280eb65fe0e6a1f562326ffbfac194dbcbb1859ee491f56cae", func := "longcase/longcaselaw04.OctetsSigns", spec := "octetsSigns", inPlace := ["internal/bytealg.IndexByte", "internal/bytealg.Index"], named := ["internal/bytealg.MaxLen"], apart := false, narrowed := true }
def OctetsSignsUptoSaid : Prop := octetsSignsUptoRow.holds Try.pinned (OpenSpec.upto octetsSignsSpec)

/-- 'longcaselaw04.OctetsParts', WHERE WHAT IT READS IS OF BULK AT MOST 1048576: true; the input reads as it did. -/
def octetsPartsUptoRow : OpenClaim := { program := "ytgggjfclhjpboaa", sum := "33837b245f3688280eb65fe0e6a1f562326ffbfac194dbcbb1859ee491f56cae", func := "longcase/longcaselaw04.OctetsParts", spec := "octetsParts", inPlace := ["internal/bytealg.IndexByte", "internal/bytealg.Index"], named := ["internal/bytealg.MaxLen"], apart := false, narrowed := true }
def OctetsPartsUptoSaid : Prop := octetsPartsUptoRow.holds Try.pinned (OpenSpec.upto octetsPartsSpec)

end Rows
end Go.Proofs.Ytgggjfclhjpboaa
