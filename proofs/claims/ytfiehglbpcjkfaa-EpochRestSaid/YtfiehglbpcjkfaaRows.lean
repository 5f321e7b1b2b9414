/-
  No cell of these rows narrows 'for every input' (looked for: loops, veiled, ifaces, maps, wideKeys, modest, calm, conditions, laid).
  DERIVED. THE GIVEN ROWS OF THIS SEAT. 6 by the template 'for every input the law returns true; each argument reads behind the call as it read before'; 0 by the template 'total and deterministic' (their statements: YtfiehglbpcjkfaaTotals.lean).
  GIVEN WITH THE SEED: the statements are not yours to turn. If you find one false, say at which input.
  Laid BY PROGRAM, IN A SANDBOX (cutbox-rows.mjs): the forced cells as the released guide's own fill.sh prints them over the translation d324a6504eda875e… (all of the seat's roots in one cut). By AI agents, Wed Nov 11 2026. No macro, syntax, notation, axiom, sorry.
-/
import Derived.Test.YtfiehglbpcjkfaaChecked
import GoSem.Claim
import GoSem.ClaimJoined
import GoSem.ClaimMapViews
import Derived.JoinedTies
import Derived.KernelRfl
namespace Go.Proofs.Ytfiehglbpcjkfaa
/- THE CELL 'sum', in the pinned program and in every row, IS THE sha256 OF THE DUMP (.gsa) THAT YtfiehglbpcjkfaaProg.lean LOADS. Nothing in Lean hashes anything: it is a label: what it is worth is what the hold of that sum in a sandbox is worth. -/
noncomputable def Try.pinned : Pinned := { name := "ytfiehglbpcjkfaa", sum := "d324a6504eda875ef678bb6dbc038c7767f66b85840c9bc69111d80c41fd2daf", checked := Try.checked }
namespace Rows
def none {H : Type} : Left H := { results := [], args := [] }

/-- 'longcaselaw16.EpochTells': WHATEVER THE INPUT: true; the input reads as it did. -/
def epochTellsSpec : ChangeSpec := { name := "epochTells", fn := fun _ => fun
  | [d] => { results := [.lit (.bool true)], args := [d] }
  | _ => none }
def epochTellsRow : OpenClaim := { program := "ytfiehglbpcjkfaa", sum := "d324a6504eda875ef678bb6dbc038c7767f66b85840c9bc69111d80c41fd2daf", func := "longcase/longcaselaw16.EpochTells", spec := "epochTells", inPlace := ["sync/atomic.LoadInt64", "sync/atomic.SwapInt64"], unfollowed := true, recurses := true, apart := false }
def EpochTellsSaid : Prop := epochTellsRow.holds Try.pinned (OpenSpec.ofChange epochTellsSpec)

/-- ITS FALSE NEIGHBOUR: 'it returns false'. Refute it at one input. -/
def epochTellsWrong : ChangeSpec := { name := "epochTells", fn := fun _ => fun
  | [d] => { results := [.lit (.bool false)], args := [d] }
  | _ => none }
def EpochTellsWrongFalsely : Prop := epochTellsRow.holds Try.pinned (OpenSpec.ofChange epochTellsWrong)

/-- 'longcaselaw16.EpochHolds': WHATEVER THE INPUT: true; the input reads as it did. -/
def epochHoldsSpec : ChangeSpec := { name := "epochHolds", fn := fun _ => fun
  | [d1, d2] => { results := [.lit (.bool true)], args := [d1, d2] }
  | _ => none }
def epochHoldsRow : OpenClaim := { program := "ytfiehglbpcjkfaa", sum := "d324a6504eda875ef678bb6dbc038c7767f66b85840c9bc69111d80c41fd2daf", func := "longcase/longcaselaw16.EpochHolds", spec := "epochHolds", inPlace := ["sync/atomic.LoadInt64", "sync/atomic.SwapInt64"], unfollowed := true, recurses := true, apart := false }
def EpochHoldsSaid : Prop := epochHoldsRow.holds Try.pinned (OpenSpec.ofChange epochHoldsSpec)

/-- ITS FALSE NEIGHBOUR: 'it returns false'. Refute it at one input. -/
def epochHoldsWrong : ChangeSpec := { name := "epochHolds", fn := fun _ => fun
  | [d1, d2] => { results := [.lit (.bool false)], args := [d1, d2] }
  | _ => none }
def EpochHoldsWrongFalsely : Prop := epochHoldsRow.holds Try.pinned (OpenSpec.ofChange epochHoldsWrong)

/-- 'longcaselaw16.EpochRest': WHATEVER THE INPUT: true; the input reads as it did. -/
def epochRestSpec : ChangeSpec := { name := "epochRest", fn := fun _ => fun
  | [d1, d2, d3] => { results := [.lit (.bool true)], args := [d1, d2, d3] }
  | _ => none }
def epochRestRow : OpenClaim := { program := "ytfiehglbpcjkfaa", sum := "d324a6504eda875ef678bb6dbc038c7767f66b85840c9bc69111d80c41fd2daf", func := "longcase/longcaselaw16.EpochRest", spec := "epochRest", inPlace := ["sync/atomic.LoadInt64", "sync/atomic.SwapInt64"], unfollowed := true, recurses := true, apart := false }
def EpochRestSaid : Prop := epochRestRow.holds Try.pinned (OpenSpec.ofChange epochRestSpec)

/-- ITS FALSE NEIGHBOUR: 'it returns false'. Refute it at one input. -/
def epochRestWrong : ChangeSpec := { name := "epochRest", fn := fun _ => fun
  | [d1, d2, d3] => { results := [.lit (.bool false)], args := [d1, d2, d3] }
  | _ => none }
def EpochRestWrongFalsely : Prop := epochRestRow.holds Try.pinned (OpenSpec.ofChange epochRestWrong)

/-- 'longcaselaw16.EpochPins': WHATEVER THE INPUT: true; the input reads as it did. -/
def epochPinsSpec : ChangeSpec := { name := "epochPins", fn := fun _ => fun
  | [d1, d2] => { results := [.lit (.bool true)], args := [d1, d2] }
  | _ => none }
def epochPinsRow : OpenClaim := { program := "ytfiehglbpcjkfaa", sum := "d324a6504eda875ef678bb6dbc038c7767f66b85840c9bc69111d80c41fd2daf", func := "longcase/longcaselaw16.EpochPins", spec := "epochPins", inPlace := ["sync/atomic.LoadInt64", "sync/atomic.SwapInt64"], unfollowed := true, recurses := true, apart := false }
def EpochPinsSaid : Prop := epochPinsRow.holds Try.pinned (OpenSpec.ofChange epochPinsSpec)

/-- ITS FALSE NEIGHBOUR: 'it returns false'. Refute it at one input. -/
def epochPinsWrong : ChangeSpec := { name := "epochPins", fn := fun _ => fun
  | [d1, d2] => { results := [.lit (.bool false)], args := [d1, d2] }
  | _ => none }
def EpochPinsWrongFalsely : Prop := epochPinsRow.holds Try.pinned (OpenSpec.ofChange epochPinsWrong)

/-- 'longcaselaw16.EpochAgain': WHATEVER THE INPUT: true; the input reads as it did. -/
def epochAgainSpec : ChangeSpec := { name := "epochAgain", fn := fun _ => fun
  | [d1, d2, d3] => { results := [.lit (.bool true)], args := [d1, d2, d3] }
  | _ => none }
def epochAgainRow : OpenClaim := { program := "ytfiehglbpcjkfaa", sum := "d324a6504eda875ef678bb6dbc038c7767f66b85840c9bc69111d80c41fd2daf", func := "longcase/longcaselaw16.EpochAgain", spec := "epochAgain", inPlace := ["sync/atomic.LoadInt64", "sync/atomic.SwapInt64"], unfollowed := true, recurses := true, apart := false }
def EpochAgainSaid : Prop := epochAgainRow.holds Try.pinned (OpenSpec.ofChange epochAgainSpec)

/-- ITS FALSE NEIGHBOUR: 'it returns false'. Refute it at one input. -/
def epochAgainWrong : ChangeSpec := { name := "epochAgain", fn := fun _ => fun
  | [d1, d2, d3] => { results := [.lit (.bool false)], args := [d1, d2, d3] }
  | _ => none }
def EpochAgainWrongFalsely : Prop := epochAgainRow.holds Try.pinned (OpenSpec.ofChange epochAgainWrong)

/-- 'longcaselaw16.EpochInside': WHATEVER THE INPUT: true; the input reads as it did. -/
def epochInsideSpec : ChangeSpec := { name := "epochInside", fn := fun _ => fun
  | [d] => { results := [.lit (.bool true)], args := [d] }
  | _ => none }
def epochInsideRow : OpenClaim := { program := "ytfiehglbpcjkfaa", sum := "d324a6504eda875ef678bb6dbc038c7767f66b85840c9bc69111d80c41fd2daf", func := "longcase/longcaselaw16.EpochInside", spec := "epochInside", inPlace := ["sync/atomic.LoadInt64", "sync/atomic.SwapInt64"], unfollowed := true, recurses := true, apart := false }
def EpochInsideSaid : Prop := epochInsideRow.holds Try.pinned (OpenSpec.ofChange epochInsideSpec)

/-- ITS FALSE NEIGHBOUR: 'it returns false'. Refute it at one input. -/
def epochInsideWrong : ChangeSpec := { name := "epochInside", fn := fun _ => fun
  | [d] => { results := [.lit (.bool false)], args := [d] }
  | _ => none }
def EpochInsideWrongFalsely : Prop := epochInsideRow.holds Try.pinned (OpenSpec.ofChange epochInsideWrong)

/- THE SECOND FORM. 'bulk': how many values and letters a reading holds, each counted each time it is reached (what is shared counts as often as it is met; a slice's spare places count too). A statement '..UptoSaid' is the law's where the arguments, and the package variables that the reading takes, are together of bulk at most 1048576: NARROWER than '..Said'. Prove '..Said' where nothing that the law and all that it calls make is longer than what came in: it says more and counts as full. Else prove '..UptoSaid'. A law counts once. -/
mutual
def uptoBulk {H : Type} : DataW H → Nat
  | .lit (.string bytes) => bytes.length + 1
  | .lit _ => 1
  | .nil => 1
  | .ptr d => uptoBulk d + 1
  | .slice elems spare => uptoBulkAll elems + uptoBulkAll spare + 1
  | .agg parts => uptoBulkAll parts + 1
  | .iface _ d => uptoBulk d + 1
  | .map entries => uptoBulkEntries entries + 1
  | .held _ => 1
def uptoBulkAll {H : Type} : List (DataW H) → Nat
  | [] => 0
  | d :: r => uptoBulk d + uptoBulkAll r
def uptoBulkEntries {H : Type} : List (Lit × DataW H) → Nat
  | [] => 0
  | x :: r => uptoBulkEntry x + uptoBulkEntries r
def uptoBulkEntry {H : Type} : Lit × DataW H → Nat
  | (.string bytes, d) => bytes.length + uptoBulk d + 1
  | (_, d) => uptoBulk d + 1
 end
def uptoSmall : (H : Type) → List (DataW H) → Bool := fun _ ds => decide (uptoBulkAll ds ≤ 1048576)
def OpenSpec.upto (s : _root_.Go.ChangeSpec) : _root_.Go.OpenSpec := { _root_.Go.OpenSpec.ofChange s with cond := some uptoSmall }

/-- 'longcaselaw16.EpochTells', WHERE WHAT IT READS IS OF BULK AT MOST 1048576: true; the input reads as it did. -/
def epochTellsUptoRow : OpenClaim := { program := "ytfiehglbpcjkfaa", sum := "d324a6504eda875ef678bb6dbc038c7767f66b85840c9bc69111d80c41fd2daf", func := "longcase/longcaselaw16.EpochTells", spec := "epochTells", inPlace := ["sync/atomic.LoadInt64", "sync/atomic.SwapInt64"], unfollowed := true, recurses := true, apart := false, narrowed := true }
def EpochTellsUptoSaid : Prop := epochTellsUptoRow.holds Try.pinned (OpenSpec.upto epochTellsSpec)

/-- 'longcaselaw16.EpochHolds', WHERE WHAT IT READS IS OF BULK AT MOST 1048576: true; the input reads as it did. -/
def epochHoldsUptoRow : OpenClaim := { program := "ytfiehglbpcjkfaa", sum := "d324a6504eda875ef678bb6dbc038c7767f66b85840c9bc69111d80c41fd2daf", func := "longcase/longcaselaw16.EpochHolds", spec := "epochHolds", inPlace := ["sync/atomic.LoadInt64", "sync/atomic.SwapInt64"], unfollowed := true, recurses := true, apart := false, narrowed := true }
def EpochHoldsUptoSaid : Prop := epochHoldsUptoRow.holds Try.pinned (OpenSpec.upto epochHoldsSpec)

/-- 'longcaselaw16.EpochRest', WHERE WHAT IT READS IS OF BULK AT MOST 1048576: true; the input reads as it did. -/
def epochRestUptoRow : OpenClaim := { program := "ytfiehglbpcjkfaa", sum := "d324a6504eda875ef678bb6dbc038c7767f66b85840c9bc69111d80c41fd2daf", func := "longcase/longcaselaw16.EpochRest", spec := "epochRest", inPlace := ["sync/atomic.LoadInt64", "sync/atomic.SwapInt64"], unfollowed := true, recurses := true, apart := false, narrowed := true }
def EpochRestUptoSaid : Prop := epochRestUptoRow.holds Try.pinned (OpenSpec.upto epochRestSpec)

/-- 'longcaselaw16.EpochPins', WHERE WHAT IT READS IS OF BULK AT MOST 1048576: true; the input reads as it did. -/
def epochPinsUptoRow : OpenClaim := { program := "ytfiehglbpcjkfaa", sum := "d324a6504eda875ef678bb6dbc038c7767f66b85840c9bc69111d80c41fd2daf", func := "longcase/longcaselaw16.EpochPins", spec := "epochPins", inPlace := ["sync/atomic.LoadInt64", "sync/atomic.SwapInt64"], unfollowed := true, recurses := true, apart := false, narrowed := true }
def EpochPinsUptoSaid : Prop := epochPinsUptoRow.holds Try.pinned (OpenSpec.upto epochPinsSpec)

/-- 'longcaselaw16.EpochAgain', WHERE WHAT IT READS IS OF BULK AT MOST 1048576: true; the input reads as it did. -/
def epochAgainUptoRow : OpenClaim := { program := "ytfiehglbpcjkfaa", sum := "d324a6504eda875ef678bb6dbc038c7767f66b85840c9bc69111d80c41fd2daf", func := "longcase/longcaselaw16.EpochAgain", spec := "epochAgain", inPlace := ["sync/atomic.LoadInt64", "sync/atomic.SwapInt64"], unfollowed := true, recurses := true, apart := false, narrowed := true }
def EpochAgainUptoSaid : Prop := epochAgainUptoRow.holds Try.pinned (OpenSpec.upto epochAgainSpec)

/-- 'longcaselaw16.EpochInside', WHERE WHAT IT READS IS OF BULK AT MOST 1048576: true; the input reads as it did. -/
def epochInsideUptoRow : OpenClaim := { program := "ytfiehglbpcjkfaa", sum := "d324a6504eda875ef678bb6dbc038c7767f66b85840c9bc69111d80c41fd2daf", func := "longcase/longcaselaw16.EpochInside", spec := "epochInside", inPlace := ["sync/atomic.LoadInt64", "sync/atomic.SwapInt64"], unfollowed := true, recurses := true, apart := false, narrowed := true }
def EpochInsideUptoSaid : Prop := epochInsideUptoRow.holds Try.pinned (OpenSpec.upto epochInsideSpec)

end Rows
end Go.Proofs.Ytfiehglbpcjkfaa
