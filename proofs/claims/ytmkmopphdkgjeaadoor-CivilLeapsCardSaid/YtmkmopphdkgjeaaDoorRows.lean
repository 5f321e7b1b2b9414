/-
  NARROWER THAN 'FOR EVERY INPUT', by the rows' own cells (each row's printed sentence says how): CivilTells: laid · CivilBack: laid · CivilNext: laid · CivilYears: laid · CivilEnds: laid · CivilWeeks: laid · CivilYearday: laid · CivilLeaps: laid.
  DERIVED. THE GIVEN ROWS OF THIS SEAT. 8 by the template 'for every input the law returns true; each argument reads behind the call as it read before'; 0 by the template 'total and deterministic' (their statements: YtmkmopphdkgjeaaDoorTotals.lean).
  GIVEN WITH THE SEED: the statements are not yours to turn. If you find one false, say at which input.
  Laid BY PROGRAM, IN A SANDBOX (cutbox-rows.mjs): the forced cells as the released guide's own fill.sh prints them over the translation 7acae1495638bebc… (all of the seat's roots in one cut). By AI agents, Wed Nov 11 2026. No macro, syntax, notation, axiom, sorry.
-/
import Derived.Test.YtmkmopphdkgjeaaDoorChecked
import GoSem.Claim
import GoSem.ClaimJoined
import GoSem.ClaimMapViews
import Derived.JoinedTies
import Derived.KernelRfl
namespace Go.Proofs.YtmkmopphdkgjeaaDoor
/- THE CELL 'sum', in the pinned program and in every row, IS THE sha256 OF THE DUMP (.gsa) THAT YtmkmopphdkgjeaaDoorProg.lean LOADS. Nothing in Lean hashes anything: it is a label: what it is worth is what the hold of that sum in a sandbox is worth. -/
noncomputable def Tryd.pinned : Pinned := { name := "ytmkmopphdkgjeaadoor", sum := "7acae1495638bebc19d5bf70a23bdc5831db560b9b900f04d2d15c271756ec49", checked := Tryd.checked }
namespace Rows
def none {H : Type} : Left H := { results := [], args := [] }

/- WHAT THE LISTED PACKAGE-LEVEL VARIABLES READ AS WHEN THE CALL BEGINS. Each datum BY PROGRAM (the guide's laid-datum.mjs) off the statement by which the dump's own 'gosem.cut.vars' lays the variable. In a bare row this is a premise. The card (YtmkmopphdkgjeaaDoorCards.lean) ties it to the program's text. -/
def laid_longcase_civil_lengths {H : Type} : DataW H := .agg [.lit (.int .i64 31), .lit (.int .i64 28), .lit (.int .i64 31), .lit (.int .i64 30), .lit (.int .i64 31), .lit (.int .i64 30), .lit (.int .i64 31), .lit (.int .i64 31), .lit (.int .i64 30), .lit (.int .i64 31), .lit (.int .i64 30), .lit (.int .i64 31)]

/-- 'longcaselaw02.CivilTells': WHATEVER THE INPUT: true; the input reads as it did. -/
def civilTellsSpec : ChangeSpec := { name := "civilTells", fn := fun _ => fun
  | [d1, d2, d3, d4] => { results := [.lit (.bool true)], args := [d1, d2, d3, d4] }
  | _ => none }
def civilTellsRow : OpenClaim := { program := "ytmkmopphdkgjeaadoor", sum := "7acae1495638bebc19d5bf70a23bdc5831db560b9b900f04d2d15c271756ec49", func := "longcase/longcaselaw02.CivilTells", spec := "civilTells", named := ["longcase/civil.lengths"], apart := false, laid := [("longcase/civil.lengths", laid_longcase_civil_lengths)] }
def CivilTellsSaid : Prop := civilTellsRow.holds Tryd.pinned (OpenSpec.ofChange civilTellsSpec)

/-- ITS FALSE NEIGHBOUR: 'it returns false'. Refute it at one input. -/
def civilTellsWrong : ChangeSpec := { name := "civilTells", fn := fun _ => fun
  | [d1, d2, d3, d4] => { results := [.lit (.bool false)], args := [d1, d2, d3, d4] }
  | _ => none }
def CivilTellsWrongFalsely : Prop := civilTellsRow.holds Tryd.pinned (OpenSpec.ofChange civilTellsWrong)

/-- 'longcaselaw02.CivilBack': WHATEVER THE INPUT: true; the input reads as it did. -/
def civilBackSpec : ChangeSpec := { name := "civilBack", fn := fun _ => fun
  | [d1, d2, d3, d4] => { results := [.lit (.bool true)], args := [d1, d2, d3, d4] }
  | _ => none }
def civilBackRow : OpenClaim := { program := "ytmkmopphdkgjeaadoor", sum := "7acae1495638bebc19d5bf70a23bdc5831db560b9b900f04d2d15c271756ec49", func := "longcase/longcaselaw02.CivilBack", spec := "civilBack", named := ["longcase/civil.lengths"], apart := false, laid := [("longcase/civil.lengths", laid_longcase_civil_lengths)] }
def CivilBackSaid : Prop := civilBackRow.holds Tryd.pinned (OpenSpec.ofChange civilBackSpec)

/-- ITS FALSE NEIGHBOUR: 'it returns false'. Refute it at one input. -/
def civilBackWrong : ChangeSpec := { name := "civilBack", fn := fun _ => fun
  | [d1, d2, d3, d4] => { results := [.lit (.bool false)], args := [d1, d2, d3, d4] }
  | _ => none }
def CivilBackWrongFalsely : Prop := civilBackRow.holds Tryd.pinned (OpenSpec.ofChange civilBackWrong)

/-- 'longcaselaw02.CivilNext': WHATEVER THE INPUT: true; the input reads as it did. -/
def civilNextSpec : ChangeSpec := { name := "civilNext", fn := fun _ => fun
  | [d] => { results := [.lit (.bool true)], args := [d] }
  | _ => none }
def civilNextRow : OpenClaim := { program := "ytmkmopphdkgjeaadoor", sum := "7acae1495638bebc19d5bf70a23bdc5831db560b9b900f04d2d15c271756ec49", func := "longcase/longcaselaw02.CivilNext", spec := "civilNext", named := ["longcase/civil.lengths"], apart := false, laid := [("longcase/civil.lengths", laid_longcase_civil_lengths)] }
def CivilNextSaid : Prop := civilNextRow.holds Tryd.pinned (OpenSpec.ofChange civilNextSpec)

/-- ITS FALSE NEIGHBOUR: 'it returns false'. Refute it at one input. -/
def civilNextWrong : ChangeSpec := { name := "civilNext", fn := fun _ => fun
  | [d] => { results := [.lit (.bool false)], args := [d] }
  | _ => none }
def CivilNextWrongFalsely : Prop := civilNextRow.holds Tryd.pinned (OpenSpec.ofChange civilNextWrong)

/-- 'longcaselaw02.CivilYears': WHATEVER THE INPUT: true; the input reads as it did. -/
def civilYearsSpec : ChangeSpec := { name := "civilYears", fn := fun _ => fun
  | [d] => { results := [.lit (.bool true)], args := [d] }
  | _ => none }
def civilYearsRow : OpenClaim := { program := "ytmkmopphdkgjeaadoor", sum := "7acae1495638bebc19d5bf70a23bdc5831db560b9b900f04d2d15c271756ec49", func := "longcase/longcaselaw02.CivilYears", spec := "civilYears", named := ["longcase/civil.lengths"], apart := false, laid := [("longcase/civil.lengths", laid_longcase_civil_lengths)] }
def CivilYearsSaid : Prop := civilYearsRow.holds Tryd.pinned (OpenSpec.ofChange civilYearsSpec)

/-- ITS FALSE NEIGHBOUR: 'it returns false'. Refute it at one input. -/
def civilYearsWrong : ChangeSpec := { name := "civilYears", fn := fun _ => fun
  | [d] => { results := [.lit (.bool false)], args := [d] }
  | _ => none }
def CivilYearsWrongFalsely : Prop := civilYearsRow.holds Tryd.pinned (OpenSpec.ofChange civilYearsWrong)

/-- 'longcaselaw02.CivilEnds': WHATEVER THE INPUT: true; the input reads as it did. -/
def civilEndsSpec : ChangeSpec := { name := "civilEnds", fn := fun _ => fun
  | [d] => { results := [.lit (.bool true)], args := [d] }
  | _ => none }
def civilEndsRow : OpenClaim := { program := "ytmkmopphdkgjeaadoor", sum := "7acae1495638bebc19d5bf70a23bdc5831db560b9b900f04d2d15c271756ec49", func := "longcase/longcaselaw02.CivilEnds", spec := "civilEnds", named := ["longcase/civil.lengths"], apart := false, laid := [("longcase/civil.lengths", laid_longcase_civil_lengths)] }
def CivilEndsSaid : Prop := civilEndsRow.holds Tryd.pinned (OpenSpec.ofChange civilEndsSpec)

/-- ITS FALSE NEIGHBOUR: 'it returns false'. Refute it at one input. -/
def civilEndsWrong : ChangeSpec := { name := "civilEnds", fn := fun _ => fun
  | [d] => { results := [.lit (.bool false)], args := [d] }
  | _ => none }
def CivilEndsWrongFalsely : Prop := civilEndsRow.holds Tryd.pinned (OpenSpec.ofChange civilEndsWrong)

/-- 'longcaselaw02.CivilWeeks': WHATEVER THE INPUT: true; the input reads as it did. -/
def civilWeeksSpec : ChangeSpec := { name := "civilWeeks", fn := fun _ => fun
  | [d] => { results := [.lit (.bool true)], args := [d] }
  | _ => none }
def civilWeeksRow : OpenClaim := { program := "ytmkmopphdkgjeaadoor", sum := "7acae1495638bebc19d5bf70a23bdc5831db560b9b900f04d2d15c271756ec49", func := "longcase/longcaselaw02.CivilWeeks", spec := "civilWeeks", named := ["longcase/civil.lengths"], apart := false, laid := [("longcase/civil.lengths", laid_longcase_civil_lengths)] }
def CivilWeeksSaid : Prop := civilWeeksRow.holds Tryd.pinned (OpenSpec.ofChange civilWeeksSpec)

/-- ITS FALSE NEIGHBOUR: 'it returns false'. Refute it at one input. -/
def civilWeeksWrong : ChangeSpec := { name := "civilWeeks", fn := fun _ => fun
  | [d] => { results := [.lit (.bool false)], args := [d] }
  | _ => none }
def CivilWeeksWrongFalsely : Prop := civilWeeksRow.holds Tryd.pinned (OpenSpec.ofChange civilWeeksWrong)

/-- 'longcaselaw02.CivilYearday': WHATEVER THE INPUT: true; the input reads as it did. -/
def civilYeardaySpec : ChangeSpec := { name := "civilYearday", fn := fun _ => fun
  | [d1, d2] => { results := [.lit (.bool true)], args := [d1, d2] }
  | _ => none }
def civilYeardayRow : OpenClaim := { program := "ytmkmopphdkgjeaadoor", sum := "7acae1495638bebc19d5bf70a23bdc5831db560b9b900f04d2d15c271756ec49", func := "longcase/longcaselaw02.CivilYearday", spec := "civilYearday", named := ["longcase/civil.lengths"], apart := false, laid := [("longcase/civil.lengths", laid_longcase_civil_lengths)] }
def CivilYeardaySaid : Prop := civilYeardayRow.holds Tryd.pinned (OpenSpec.ofChange civilYeardaySpec)

/-- ITS FALSE NEIGHBOUR: 'it returns false'. Refute it at one input. -/
def civilYeardayWrong : ChangeSpec := { name := "civilYearday", fn := fun _ => fun
  | [d1, d2] => { results := [.lit (.bool false)], args := [d1, d2] }
  | _ => none }
def CivilYeardayWrongFalsely : Prop := civilYeardayRow.holds Tryd.pinned (OpenSpec.ofChange civilYeardayWrong)

/-- 'longcaselaw02.CivilLeaps': WHATEVER THE INPUT: true; the input reads as it did. -/
def civilLeapsSpec : ChangeSpec := { name := "civilLeaps", fn := fun _ => fun
  | [d] => { results := [.lit (.bool true)], args := [d] }
  | _ => none }
def civilLeapsRow : OpenClaim := { program := "ytmkmopphdkgjeaadoor", sum := "7acae1495638bebc19d5bf70a23bdc5831db560b9b900f04d2d15c271756ec49", func := "longcase/longcaselaw02.CivilLeaps", spec := "civilLeaps", named := ["longcase/civil.lengths"], apart := false, laid := [("longcase/civil.lengths", laid_longcase_civil_lengths)] }
def CivilLeapsSaid : Prop := civilLeapsRow.holds Tryd.pinned (OpenSpec.ofChange civilLeapsSpec)

/-- ITS FALSE NEIGHBOUR: 'it returns false'. Refute it at one input. -/
def civilLeapsWrong : ChangeSpec := { name := "civilLeaps", fn := fun _ => fun
  | [d] => { results := [.lit (.bool false)], args := [d] }
  | _ => none }
def CivilLeapsWrongFalsely : Prop := civilLeapsRow.holds Tryd.pinned (OpenSpec.ofChange civilLeapsWrong)

/- THE SECOND FORM. 'bulk': how many values and letters a reading holds, each counted each time it is reached (what is shared counts as often as it is met; a slice's spare places count too). A statement '..UptoSaid' is the law's where the arguments, and the package variables that the reading takes, are together of bulk at most 1048576: NARROWER than '..Said'. Prove '..Said' where nothing that the law and all that it calls make is longer than what came in: it says more and counts as full. Else prove '..UptoSaid'. A law counts once. -/
mutual
def uptoBulk {H : Type} : DataW H → Nat
  | .lit (.string bytes) => bytes.length + 1
  | .lit _ => 1
  | .nil => 1
  | .ptr d => uptoBulk d + 1
  | .slice elems spare => uptoBulkAll elems + uptoBulkAll spare + 1
  | .agg parts => uptoBulkAll parts + 1
  | .iface _ d => uptoBulk d + 1
  | .map entries => uptoBulkEntries entries + 1
  | .held _ => 1
def uptoBulkAll {H : Type} : List (DataW H) → Nat
  | [] => 0
  | d :: r => uptoBulk d + uptoBulkAll r
def uptoBulkEntries {H : Type} : List (Lit × DataW H) → Nat
  | [] => 0
  | x :: r => uptoBulkEntry x + uptoBulkEntries r
def uptoBulkEntry {H : Type} : Lit × DataW H → Nat
  | (.string bytes, d) => bytes.length + uptoBulk d + 1
  | (_, d) => uptoBulk d + 1
 end
def uptoSmall : (H : Type) → List (DataW H) → Bool := fun _ ds => decide (uptoBulkAll ds ≤ 1048576)
def OpenSpec.upto (s : _root_.Go.ChangeSpec) : _root_.Go.OpenSpec := { _root_.Go.OpenSpec.ofChange s with cond := some uptoSmall }

/-- 'longcaselaw02.CivilTells', WHERE WHAT IT READS IS OF BULK AT MOST 1048576: true; the input reads as it did. -/
def civilTellsUptoRow : OpenClaim := { program := "ytmkmopphdkgjeaadoor", sum := "7acae1495638bebc19d5bf70a23bdc5831db560b9b900f04d2d15c271756ec49", func := "longcase/longcaselaw02.CivilTells", spec := "civilTells", named := ["longcase/civil.lengths"], apart := false, laid := [("longcase/civil.lengths", laid_longcase_civil_lengths)], narrowed := true }
def CivilTellsUptoSaid : Prop := civilTellsUptoRow.holds Tryd.pinned (OpenSpec.upto civilTellsSpec)

/-- 'longcaselaw02.CivilBack', WHERE WHAT IT READS IS OF BULK AT MOST 1048576: true; the input reads as it did. -/
def civilBackUptoRow : OpenClaim := { program := "ytmkmopphdkgjeaadoor", sum := "7acae1495638bebc19d5bf70a23bdc5831db560b9b900f04d2d15c271756ec49", func := "longcase/longcaselaw02.CivilBack", spec := "civilBack", named := ["longcase/civil.lengths"], apart := false, laid := [("longcase/civil.lengths", laid_longcase_civil_lengths)], narrowed := true }
def CivilBackUptoSaid : Prop := civilBackUptoRow.holds Tryd.pinned (OpenSpec.upto civilBackSpec)

/-- 'longcaselaw02.CivilNext', WHERE WHAT IT READS IS OF BULK AT MOST 1048576: true; the input reads as it did. -/
def civilNextUptoRow : OpenClaim := { program := "ytmkmopphdkgjeaadoor", sum := "7acae1495638bebc19d5bf70a23bdc5831db560b9b900f04d2d15c271756ec49", func := "longcase/longcaselaw02.CivilNext", spec := "civilNext", named := ["longcase/civil.lengths"], apart := false, laid := [("longcase/civil.lengths", laid_longcase_civil_lengths)], narrowed := true }
def CivilNextUptoSaid : Prop := civilNextUptoRow.holds Tryd.pinned (OpenSpec.upto civilNextSpec)

/-- 'longcaselaw02.CivilYears', WHERE WHAT IT READS IS OF BULK AT MOST 1048576: true; the input reads as it did. -/
def civilYearsUptoRow : OpenClaim := { program := "ytmkmopphdkgjeaadoor", sum := "7acae1495638bebc19d5bf70a23bdc5831db560b9b900f04d2d15c271756ec49", func := "longcase/longcaselaw02.CivilYears", spec := "civilYears", named := ["longcase/civil.lengths"], apart := false, laid := [("longcase/civil.lengths", laid_longcase_civil_lengths)], narrowed := true }
def CivilYearsUptoSaid : Prop := civilYearsUptoRow.holds Tryd.pinned (OpenSpec.upto civilYearsSpec)

/-- 'longcaselaw02.CivilEnds', WHERE WHAT IT READS IS OF BULK AT MOST 1048576: true; the input reads as it did. -/
def civilEndsUptoRow : OpenClaim := { program := "ytmkmopphdkgjeaadoor", sum := "7acae1495638bebc19d5bf70a23bdc5831db560b9b900f04d2d15c271756ec49", func := "longcase/longcaselaw02.CivilEnds", spec := "civilEnds", named := ["longcase/civil.lengths"], apart := false, laid := [("longcase/civil.lengths", laid_longcase_civil_lengths)], narrowed := true }
def CivilEndsUptoSaid : Prop := civilEndsUptoRow.holds Tryd.pinned (OpenSpec.upto civilEndsSpec)

/-- 'longcaselaw02.CivilWeeks', WHERE WHAT IT READS IS OF BULK AT MOST 1048576: true; the input reads as it did. -/
def civilWeeksUptoRow : OpenClaim := { program := "ytmkmopphdkgjeaadoor", sum := "7acae1495638bebc19d5bf70a23bdc5831db560b9b900f04d2d15c271756ec49", func := "longcase/longcaselaw02.CivilWeeks", spec := "civilWeeks", named := ["longcase/civil.lengths"], apart := false, laid := [("longcase/civil.lengths", laid_longcase_civil_lengths)], narrowed := true }
def CivilWeeksUptoSaid : Prop := civilWeeksUptoRow.holds Tryd.pinned (OpenSpec.upto civilWeeksSpec)

/-- 'longcaselaw02.CivilYearday', WHERE WHAT IT READS IS OF BULK AT MOST 1048576: true; the input reads as it did. -/
def civilYeardayUptoRow : OpenClaim := { program := "ytmkmopphdkgjeaadoor", sum := "7acae1495638bebc19d5bf70a23bdc5831db560b9b900f04d2d15c271756ec49", func := "longcase/longcaselaw02.CivilYearday", spec := "civilYearday", named := ["longcase/civil.lengths"], apart := false, laid := [("longcase/civil.lengths", laid_longcase_civil_lengths)], narrowed := true }
def CivilYeardayUptoSaid : Prop := civilYeardayUptoRow.holds Tryd.pinned (OpenSpec.upto civilYeardaySpec)

/-- 'longcaselaw02.CivilLeaps', WHERE WHAT IT READS IS OF BULK AT MOST 1048576: true; the input reads as it did. -/
def civilLeapsUptoRow : OpenClaim := { program := "ytmkmopphdkgjeaadoor", sum := "7acae1495638bebc19d5bf70a23bdc5831db560b9b900f04d2d15c271756ec49", func := "longcase/longcaselaw02.CivilLeaps", spec := "civilLeaps", named := ["longcase/civil.lengths"], apart := false, laid := [("longcase/civil.lengths", laid_longcase_civil_lengths)], narrowed := true }
def CivilLeapsUptoSaid : Prop := civilLeapsUptoRow.holds Tryd.pinned (OpenSpec.upto civilLeapsSpec)

end Rows
end Go.Proofs.YtmkmopphdkgjeaaDoor
