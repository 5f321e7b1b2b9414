/-
  No cell of these rows narrows 'for every input' (looked for: loops, veiled, ifaces, maps, wideKeys, modest, calm, conditions, laid).
  DERIVED. THE GIVEN ROWS OF THIS SEAT. 9 by the template 'for every input the law returns true; each argument reads behind the call as it read before'; 0 by the template 'total and deterministic' (their statements: YtpjlhlknbaggcaaTotals.lean).
  GIVEN WITH THE SEED: the statements are not yours to turn. If you find one false, say at which input.
  Laid BY PROGRAM, IN A SANDBOX (cutbox-rows.mjs): the forced cells as the released guide's own fill.sh prints them over the translation 0e8a8dff39deb1d6… (all of the seat's roots in one cut). By AI agents, Wed Nov 11 2026. No macro, syntax, notation, axiom, sorry.
-/
import Derived.Test.YtpjlhlknbaggcaaChecked
import GoSem.Claim
import GoSem.ClaimJoined
import GoSem.ClaimMapViews
import Derived.JoinedTies
import Derived.KernelRfl
namespace Go.Proofs.Ytpjlhlknbaggcaa
/- THE CELL 'sum', in the pinned program and in every row, IS THE sha256 OF THE DUMP (.gsa) THAT YtpjlhlknbaggcaaProg.lean LOADS. Nothing in Lean hashes anything: it is a label: what it is worth is what the hold of that sum in a sandbox is worth. -/
noncomputable def Try.pinned : Pinned := { name := "ytpjlhlknbaggcaa", sum := "0e8a8dff39deb1d6a09f76593b6441c4694e03a5462b382788adce5f82e3c962", checked := Try.checked }
namespace Rows
def none {H : Type} : Left H := { results := [], args := [] }

/-- 'longcaselaw01.NumberTells': WHATEVER THE INPUT: true; the input reads as it did. -/
def numberTellsSpec : ChangeSpec := { name := "numberTells", fn := fun _ => fun
  | [d1, d2] => { results := [.lit (.bool true)], args := [d1, d2] }
  | _ => none }
def numberTellsRow : OpenClaim := { program := "ytpjlhlknbaggcaa", sum := "0e8a8dff39deb1d6a09f76593b6441c4694e03a5462b382788adce5f82e3c962", func := "longcase/longcaselaw01.NumberTells", spec := "numberTells", inPlace := ["math.archFloor", "math.Float64bits", "math.Float64frombits", "math.archTrunc"], unfollowed := true, recurses := true, apart := false }
def NumberTellsSaid : Prop := numberTellsRow.holds Try.pinned (OpenSpec.ofChange numberTellsSpec)

/-- ITS FALSE NEIGHBOUR: 'it returns false'. Refute it at one input. -/
def numberTellsWrong : ChangeSpec := { name := "numberTells", fn := fun _ => fun
  | [d1, d2] => { results := [.lit (.bool false)], args := [d1, d2] }
  | _ => none }
def NumberTellsWrongFalsely : Prop := numberTellsRow.holds Try.pinned (OpenSpec.ofChange numberTellsWrong)

/-- 'longcaselaw01.NumberFloats': WHATEVER THE INPUT: true; the input reads as it did. -/
def numberFloatsSpec : ChangeSpec := { name := "numberFloats", fn := fun _ => fun
  | [d1, d2, d3] => { results := [.lit (.bool true)], args := [d1, d2, d3] }
  | _ => none }
def numberFloatsRow : OpenClaim := { program := "ytpjlhlknbaggcaa", sum := "0e8a8dff39deb1d6a09f76593b6441c4694e03a5462b382788adce5f82e3c962", func := "longcase/longcaselaw01.NumberFloats", spec := "numberFloats", inPlace := ["math.archFloor", "math.Float64bits", "math.Float64frombits", "math.archTrunc"], unfollowed := true, recurses := true, apart := false }
def NumberFloatsSaid : Prop := numberFloatsRow.holds Try.pinned (OpenSpec.ofChange numberFloatsSpec)

/-- ITS FALSE NEIGHBOUR: 'it returns false'. Refute it at one input. -/
def numberFloatsWrong : ChangeSpec := { name := "numberFloats", fn := fun _ => fun
  | [d1, d2, d3] => { results := [.lit (.bool false)], args := [d1, d2, d3] }
  | _ => none }
def NumberFloatsWrongFalsely : Prop := numberFloatsRow.holds Try.pinned (OpenSpec.ofChange numberFloatsWrong)

/-- 'longcaselaw01.NumberDivides': WHATEVER THE INPUT: true; the input reads as it did. -/
def numberDividesSpec : ChangeSpec := { name := "numberDivides", fn := fun _ => fun
  | [d1, d2] => { results := [.lit (.bool true)], args := [d1, d2] }
  | _ => none }
def numberDividesRow : OpenClaim := { program := "ytpjlhlknbaggcaa", sum := "0e8a8dff39deb1d6a09f76593b6441c4694e03a5462b382788adce5f82e3c962", func := "longcase/longcaselaw01.NumberDivides", spec := "numberDivides", inPlace := ["math.archFloor", "math.Float64bits", "math.Float64frombits", "math.archTrunc"], unfollowed := true, recurses := true, apart := false }
def NumberDividesSaid : Prop := numberDividesRow.holds Try.pinned (OpenSpec.ofChange numberDividesSpec)

/-- ITS FALSE NEIGHBOUR: 'it returns false'. Refute it at one input. -/
def numberDividesWrong : ChangeSpec := { name := "numberDivides", fn := fun _ => fun
  | [d1, d2] => { results := [.lit (.bool false)], args := [d1, d2] }
  | _ => none }
def NumberDividesWrongFalsely : Prop := numberDividesRow.holds Try.pinned (OpenSpec.ofChange numberDividesWrong)

/-- 'longcaselaw01.NumberEdges': WHATEVER THE INPUT: true; the input reads as it did. -/
def numberEdgesSpec : ChangeSpec := { name := "numberEdges", fn := fun _ => fun
  | [d] => { results := [.lit (.bool true)], args := [d] }
  | _ => none }
def numberEdgesRow : OpenClaim := { program := "ytpjlhlknbaggcaa", sum := "0e8a8dff39deb1d6a09f76593b6441c4694e03a5462b382788adce5f82e3c962", func := "longcase/longcaselaw01.NumberEdges", spec := "numberEdges", inPlace := ["math.archFloor", "math.Float64bits", "math.Float64frombits", "math.archTrunc"], unfollowed := true, recurses := true, apart := false }
def NumberEdgesSaid : Prop := numberEdgesRow.holds Try.pinned (OpenSpec.ofChange numberEdgesSpec)

/-- ITS FALSE NEIGHBOUR: 'it returns false'. Refute it at one input. -/
def numberEdgesWrong : ChangeSpec := { name := "numberEdges", fn := fun _ => fun
  | [d] => { results := [.lit (.bool false)], args := [d] }
  | _ => none }
def NumberEdgesWrongFalsely : Prop := numberEdgesRow.holds Try.pinned (OpenSpec.ofChange numberEdgesWrong)

/-- 'longcaselaw01.NumberOrder': WHATEVER THE INPUT: true; the input reads as it did. -/
def numberOrderSpec : ChangeSpec := { name := "numberOrder", fn := fun _ => fun
  | [d1, d2, d3, d4] => { results := [.lit (.bool true)], args := [d1, d2, d3, d4] }
  | _ => none }
def numberOrderRow : OpenClaim := { program := "ytpjlhlknbaggcaa", sum := "0e8a8dff39deb1d6a09f76593b6441c4694e03a5462b382788adce5f82e3c962", func := "longcase/longcaselaw01.NumberOrder", spec := "numberOrder", inPlace := ["math.archFloor", "math.Float64bits", "math.Float64frombits", "math.archTrunc"], unfollowed := true, recurses := true, apart := false }
def NumberOrderSaid : Prop := numberOrderRow.holds Try.pinned (OpenSpec.ofChange numberOrderSpec)

/-- ITS FALSE NEIGHBOUR: 'it returns false'. Refute it at one input. -/
def numberOrderWrong : ChangeSpec := { name := "numberOrder", fn := fun _ => fun
  | [d1, d2, d3, d4] => { results := [.lit (.bool false)], args := [d1, d2, d3, d4] }
  | _ => none }
def NumberOrderWrongFalsely : Prop := numberOrderRow.holds Try.pinned (OpenSpec.ofChange numberOrderWrong)

/-- 'longcaselaw01.NumberNoughts': WHATEVER THE INPUT: true; the input reads as it did. -/
def numberNoughtsSpec : ChangeSpec := { name := "numberNoughts", fn := fun _ => fun
  | [d] => { results := [.lit (.bool true)], args := [d] }
  | _ => none }
def numberNoughtsRow : OpenClaim := { program := "ytpjlhlknbaggcaa", sum := "0e8a8dff39deb1d6a09f76593b6441c4694e03a5462b382788adce5f82e3c962", func := "longcase/longcaselaw01.NumberNoughts", spec := "numberNoughts", inPlace := ["math.archFloor", "math.Float64bits", "math.Float64frombits", "math.archTrunc"], unfollowed := true, recurses := true, apart := false }
def NumberNoughtsSaid : Prop := numberNoughtsRow.holds Try.pinned (OpenSpec.ofChange numberNoughtsSpec)

/-- ITS FALSE NEIGHBOUR: 'it returns false'. Refute it at one input. -/
def numberNoughtsWrong : ChangeSpec := { name := "numberNoughts", fn := fun _ => fun
  | [d] => { results := [.lit (.bool false)], args := [d] }
  | _ => none }
def NumberNoughtsWrongFalsely : Prop := numberNoughtsRow.holds Try.pinned (OpenSpec.ofChange numberNoughtsWrong)

/-- 'longcaselaw01.NumberBounds': WHATEVER THE INPUT: true; the input reads as it did. -/
def numberBoundsSpec : ChangeSpec := { name := "numberBounds", fn := fun _ => fun
  | [d] => { results := [.lit (.bool true)], args := [d] }
  | _ => none }
def numberBoundsRow : OpenClaim := { program := "ytpjlhlknbaggcaa", sum := "0e8a8dff39deb1d6a09f76593b6441c4694e03a5462b382788adce5f82e3c962", func := "longcase/longcaselaw01.NumberBounds", spec := "numberBounds", inPlace := ["math.archFloor", "math.Float64bits", "math.Float64frombits", "math.archTrunc"], unfollowed := true, recurses := true, apart := false }
def NumberBoundsSaid : Prop := numberBoundsRow.holds Try.pinned (OpenSpec.ofChange numberBoundsSpec)

/-- ITS FALSE NEIGHBOUR: 'it returns false'. Refute it at one input. -/
def numberBoundsWrong : ChangeSpec := { name := "numberBounds", fn := fun _ => fun
  | [d] => { results := [.lit (.bool false)], args := [d] }
  | _ => none }
def NumberBoundsWrongFalsely : Prop := numberBoundsRow.holds Try.pinned (OpenSpec.ofChange numberBoundsWrong)

/-- 'longcaselaw01.NumberLaws': WHATEVER THE INPUT: true; the input reads as it did. -/
def numberLawsSpec : ChangeSpec := { name := "numberLaws", fn := fun _ => fun
  | [d1, d2, d3] => { results := [.lit (.bool true)], args := [d1, d2, d3] }
  | _ => none }
def numberLawsRow : OpenClaim := { program := "ytpjlhlknbaggcaa", sum := "0e8a8dff39deb1d6a09f76593b6441c4694e03a5462b382788adce5f82e3c962", func := "longcase/longcaselaw01.NumberLaws", spec := "numberLaws", inPlace := ["math.archFloor", "math.Float64bits", "math.Float64frombits", "math.archTrunc"], unfollowed := true, recurses := true, apart := false }
def NumberLawsSaid : Prop := numberLawsRow.holds Try.pinned (OpenSpec.ofChange numberLawsSpec)

/-- ITS FALSE NEIGHBOUR: 'it returns false'. Refute it at one input. -/
def numberLawsWrong : ChangeSpec := { name := "numberLaws", fn := fun _ => fun
  | [d1, d2, d3] => { results := [.lit (.bool false)], args := [d1, d2, d3] }
  | _ => none }
def NumberLawsWrongFalsely : Prop := numberLawsRow.holds Try.pinned (OpenSpec.ofChange numberLawsWrong)

/-- 'longcaselaw01.NumberWhole': WHATEVER THE INPUT: true; the input reads as it did. -/
def numberWholeSpec : ChangeSpec := { name := "numberWhole", fn := fun _ => fun
  | [d] => { results := [.lit (.bool true)], args := [d] }
  | _ => none }
def numberWholeRow : OpenClaim := { program := "ytpjlhlknbaggcaa", sum := "0e8a8dff39deb1d6a09f76593b6441c4694e03a5462b382788adce5f82e3c962", func := "longcase/longcaselaw01.NumberWhole", spec := "numberWhole", inPlace := ["math.archFloor", "math.Float64bits", "math.Float64frombits", "math.archTrunc"], unfollowed := true, recurses := true, apart := false }
def NumberWholeSaid : Prop := numberWholeRow.holds Try.pinned (OpenSpec.ofChange numberWholeSpec)

/-- ITS FALSE NEIGHBOUR: 'it returns false'. Refute it at one input. -/
def numberWholeWrong : ChangeSpec := { name := "numberWhole", fn := fun _ => fun
  | [d] => { results := [.lit (.bool false)], args := [d] }
  | _ => none }
def NumberWholeWrongFalsely : Prop := numberWholeRow.holds Try.pinned (OpenSpec.ofChange numberWholeWrong)

/- THE SECOND FORM. 'bulk': how many values and letters a reading holds, each counted each time it is reached (what is shared counts as often as it is met; a slice's spare places count too). A statement '..UptoSaid' is the law's where the arguments, and the package variables that the reading takes, are together of bulk at most 1048576: NARROWER than '..Said'. Prove '..Said' where nothing that the law and all that it calls make is longer than what came in: it says more and counts as full. Else prove '..UptoSaid'. A law counts once. -/
mutual
def uptoBulk {H : Type} : DataW H → Nat
  | .lit (.string bytes) => bytes.length + 1
  | .lit _ => 1
  | .nil => 1
  | .ptr d => uptoBulk d + 1
  | .slice elems spare => uptoBulkAll elems + uptoBulkAll spare + 1
  | .agg parts => uptoBulkAll parts + 1
  | .iface _ d => uptoBulk d + 1
  | .map entries => uptoBulkEntries entries + 1
  | .held _ => 1
def uptoBulkAll {H : Type} : List (DataW H) → Nat
  | [] => 0
  | d :: r => uptoBulk d + uptoBulkAll r
def uptoBulkEntries {H : Type} : List (Lit × DataW H) → Nat
  | [] => 0
  | x :: r => uptoBulkEntry x + uptoBulkEntries r
def uptoBulkEntry {H : Type} : Lit × DataW H → Nat
  | (.string bytes, d) => bytes.length + uptoBulk d + 1
  | (_, d) => uptoBulk d + 1
 end
def uptoSmall : (H : Type) → List (DataW H) → Bool := fun _ ds => decide (uptoBulkAll ds ≤ 1048576)
def OpenSpec.upto (s : _root_.Go.ChangeSpec) : _root_.Go.OpenSpec := { _root_.Go.OpenSpec.ofChange s with cond := some uptoSmall }

/-- 'longcaselaw01.NumberTells', WHERE WHAT IT READS IS OF BULK AT MOST 1048576: true; the input reads as it did. -/
def numberTellsUptoRow : OpenClaim := { program := "ytpjlhlknbaggcaa", sum := "0e8a8dff39deb1d6a09f76593b6441c4694e03a5462b382788adce5f82e3c962", func := "longcase/longcaselaw01.NumberTells", spec := "numberTells", inPlace := ["math.archFloor", "math.Float64bits", "math.Float64frombits", "math.archTrunc"], unfollowed := true, recurses := true, apart := false, narrowed := true }
def NumberTellsUptoSaid : Prop := numberTellsUptoRow.holds Try.pinned (OpenSpec.upto numberTellsSpec)

/-- 'longcaselaw01.NumberFloats', WHERE WHAT IT READS IS OF BULK AT MOST 1048576: true; the input reads as it did. -/
def numberFloatsUptoRow : OpenClaim := { program := "ytpjlhlknbaggcaa", sum := "0e8a8dff39deb1d6a09f76593b6441c4694e03a5462b382788adce5f82e3c962", func := "longcase/longcaselaw01.NumberFloats", spec := "numberFloats", inPlace := ["math.archFloor", "math.Float64bits", "math.Float64frombits", "math.archTrunc"], unfollowed := true, recurses := true, apart := false, narrowed := true }
def NumberFloatsUptoSaid : Prop := numberFloatsUptoRow.holds Try.pinned (OpenSpec.upto numberFloatsSpec)

/-- 'longcaselaw01.NumberDivides', WHERE WHAT IT READS IS OF BULK AT MOST 1048576: true; the input reads as it did. -/
def numberDividesUptoRow : OpenClaim := { program := "ytpjlhlknbaggcaa", sum := "0e8a8dff39deb1d6a09f76593b6441c4694e03a5462b382788adce5f82e3c962", func := "longcase/longcaselaw01.NumberDivides", spec := "numberDivides", inPlace := ["math.archFloor", "math.Float64bits", "math.Float64frombits", "math.archTrunc"], unfollowed := true, recurses := true, apart := false, narrowed := true }
def NumberDividesUptoSaid : Prop := numberDividesUptoRow.holds Try.pinned (OpenSpec.upto numberDividesSpec)

/-- 'longcaselaw01.NumberEdges', WHERE WHAT IT READS IS OF BULK AT MOST 1048576: true; the input reads as it did. -/
def numberEdgesUptoRow : OpenClaim := { program := "ytpjlhlknbaggcaa", sum := "0e8a8dff39deb1d6a09f76593b6441c4694e03a5462b382788adce5f82e3c962", func := "longcase/longcaselaw01.NumberEdges", spec := "numberEdges", inPlace := ["math.archFloor", "math.Float64bits", "math.Float64frombits", "math.archTrunc"], unfollowed := true, recurses := true, apart := false, narrowed := true }
def NumberEdgesUptoSaid : Prop := numberEdgesUptoRow.holds Try.pinned (OpenSpec.upto numberEdgesSpec)

/-- 'longcaselaw01.NumberOrder', WHERE WHAT IT READS IS OF BULK AT MOST 1048576: true; the input reads as it did. -/
def numberOrderUptoRow : OpenClaim := { program := "ytpjlhlknbaggcaa", sum := "0e8a8dff39deb1d6a09f76593b6441c4694e03a5462b382788adce5f82e3c962", func := "longcase/longcaselaw01.NumberOrder", spec := "numberOrder", inPlace := ["math.archFloor", "math.Float64bits", "math.Float64frombits", "math.archTrunc"], unfollowed := true, recurses := true, apart := false, narrowed := true }
def NumberOrderUptoSaid : Prop := numberOrderUptoRow.holds Try.pinned (OpenSpec.upto numberOrderSpec)

/-- 'longcaselaw01.NumberNoughts', WHERE WHAT IT READS IS OF BULK AT MOST 1048576: true; the input reads as it did. -/
def numberNoughtsUptoRow : OpenClaim := { program := "ytpjlhlknbaggcaa", sum := "0e8a8dff39deb1d6a09f76593b6441c4694e03a5462b382788adce5f82e3c962", func := "longcase/longcaselaw01.NumberNoughts", spec := "numberNoughts", inPlace := ["math.archFloor", "math.Float64bits", "math.Float64frombits", "math.archTrunc"], unfollowed := true, recurses := true, apart := false, narrowed := true }
def NumberNoughtsUptoSaid : Prop := numberNoughtsUptoRow.holds Try.pinned (OpenSpec.upto numberNoughtsSpec)

/-- 'longcaselaw01.NumberBounds', WHERE WHAT IT READS IS OF BULK AT MOST 1048576: true; the input reads as it did. -/
def numberBoundsUptoRow : OpenClaim := { program := "ytpjlhlknbaggcaa", sum := "0e8a8dff39deb1d6a09f76593b6441c4694e03a5462b382788adce5f82e3c962", func := "longcase/longcaselaw01.NumberBounds", spec := "numberBounds", inPlace := ["math.archFloor", "math.Float64bits", "math.Float64frombits", "math.archTrunc"], unfollowed := true, recurses := true, apart := false, narrowed := true }
def NumberBoundsUptoSaid : Prop := numberBoundsUptoRow.holds Try.pinned (OpenSpec.upto numberBoundsSpec)

/-- 'longcaselaw01.NumberLaws', WHERE WHAT IT READS IS OF BULK AT MOST 1048576: true; the input reads as it did. -/
def numberLawsUptoRow : OpenClaim := { program := "ytpjlhlknbaggcaa", sum := "0e8a8dff39deb1d6a09f76593b6441c4694e03a5462b382788adce5f82e3c962", func := "longcase/longcaselaw01.NumberLaws", spec := "numberLaws", inPlace := ["math.archFloor", "math.Float64bits", "math.Float64frombits", "math.archTrunc"], unfollowed := true, recurses := true, apart := false, narrowed := true }
def NumberLawsUptoSaid : Prop := numberLawsUptoRow.holds Try.pinned (OpenSpec.upto numberLawsSpec)

/-- 'longcaselaw01.NumberWhole', WHERE WHAT IT READS IS OF BULK AT MOST 1048576: true; the input reads as it did. -/
def numberWholeUptoRow : OpenClaim := { program := "ytpjlhlknbaggcaa", sum := "0e8a8dff39deb1d6a09f76593b6441c4694e03a5462b382788adce5f82e3c962", func := "longcase/longcaselaw01.NumberWhole", spec := "numberWhole", inPlace := ["math.archFloor", "math.Float64bits", "math.Float64frombits", "math.archTrunc"], unfollowed := true, recurses := true, apart := false, narrowed := true }
def NumberWholeUptoSaid : Prop := numberWholeUptoRow.holds Try.pinned (OpenSpec.upto numberWholeSpec)

end Rows
end Go.Proofs.Ytpjlhlknbaggcaa
