/-
  DERIVED. GIVEN WITH THE SEED: THE CARDS: each row of YtmkmopphdkgjeaaDoorRows.lean that lists a variable, with what it lists TIED to the program's text (the seventh form; the later family's looks); each row that meets fmt, with fmt's text TOLD by the authors' own Lean function (tested against real Go, not proved from fmt's source: count such statements apart). THE CARD IS WHAT COUNTS. Prove the row's statement (the work); the ties are given (YtmkmopphdkgjeaaDoorTie.lean); close each card by the builder's one call (the guide's Derived/Test/ToyasCard.lean, 'card_holds'). Laid BY PROGRAM, IN A SANDBOX (cutbox-door.mjs). By AI agents, Wed Nov 11 2026. No macro, syntax, notation, axiom, sorry.
-/
import Derived.Test.YtmkmopphdkgjeaaDoorRows
import GoSem.ClaimSeven
namespace Go.Proofs.YtmkmopphdkgjeaaDoor
namespace Rows

/-- THE TIED CARD OF 'longcaselaw02.CivilTells'. -/
def civilTellsCard : Claim7 := { stood := { row := civilTellsRow, standIns := [], harness := (true, "3d32c45342dbbde78692675ddc6243bb2e71cfa453d543449d9acb9e422d876c"), looks := false }, kinds := [], alts := [], laidByText := true, laidKinds := [.data], laidTests := true, laidLooks := .later }
def CivilTellsCardSaid : Prop := Claim7.holds Tryd.pinned (.plain (OpenSpec.ofChange civilTellsSpec)) civilTellsCard

/-- THE TIED CARD OF 'longcaselaw02.CivilBack'. -/
def civilBackCard : Claim7 := { stood := { row := civilBackRow, standIns := [], harness := (true, "3d32c45342dbbde78692675ddc6243bb2e71cfa453d543449d9acb9e422d876c"), looks := false }, kinds := [], alts := [], laidByText := true, laidKinds := [.data], laidTests := true, laidLooks := .later }
def CivilBackCardSaid : Prop := Claim7.holds Tryd.pinned (.plain (OpenSpec.ofChange civilBackSpec)) civilBackCard

/-- THE TIED CARD OF 'longcaselaw02.CivilNext'. -/
def civilNextCard : Claim7 := { stood := { row := civilNextRow, standIns := [], harness := (true, "3d32c45342dbbde78692675ddc6243bb2e71cfa453d543449d9acb9e422d876c"), looks := false }, kinds := [], alts := [], laidByText := true, laidKinds := [.data], laidTests := true, laidLooks := .later }
def CivilNextCardSaid : Prop := Claim7.holds Tryd.pinned (.plain (OpenSpec.ofChange civilNextSpec)) civilNextCard

/-- THE TIED CARD OF 'longcaselaw02.CivilYears'. -/
def civilYearsCard : Claim7 := { stood := { row := civilYearsRow, standIns := [], harness := (true, "3d32c45342dbbde78692675ddc6243bb2e71cfa453d543449d9acb9e422d876c"), looks := false }, kinds := [], alts := [], laidByText := true, laidKinds := [.data], laidTests := true, laidLooks := .later }
def CivilYearsCardSaid : Prop := Claim7.holds Tryd.pinned (.plain (OpenSpec.ofChange civilYearsSpec)) civilYearsCard

/-- THE TIED CARD OF 'longcaselaw02.CivilEnds'. -/
def civilEndsCard : Claim7 := { stood := { row := civilEndsRow, standIns := [], harness := (true, "3d32c45342dbbde78692675ddc6243bb2e71cfa453d543449d9acb9e422d876c"), looks := false }, kinds := [], alts := [], laidByText := true, laidKinds := [.data], laidTests := true, laidLooks := .later }
def CivilEndsCardSaid : Prop := Claim7.holds Tryd.pinned (.plain (OpenSpec.ofChange civilEndsSpec)) civilEndsCard

/-- THE TIED CARD OF 'longcaselaw02.CivilWeeks'. -/
def civilWeeksCard : Claim7 := { stood := { row := civilWeeksRow, standIns := [], harness := (true, "3d32c45342dbbde78692675ddc6243bb2e71cfa453d543449d9acb9e422d876c"), looks := false }, kinds := [], alts := [], laidByText := true, laidKinds := [.data], laidTests := true, laidLooks := .later }
def CivilWeeksCardSaid : Prop := Claim7.holds Tryd.pinned (.plain (OpenSpec.ofChange civilWeeksSpec)) civilWeeksCard

/-- THE TIED CARD OF 'longcaselaw02.CivilYearday'. -/
def civilYeardayCard : Claim7 := { stood := { row := civilYeardayRow, standIns := [], harness := (true, "3d32c45342dbbde78692675ddc6243bb2e71cfa453d543449d9acb9e422d876c"), looks := false }, kinds := [], alts := [], laidByText := true, laidKinds := [.data], laidTests := true, laidLooks := .later }
def CivilYeardayCardSaid : Prop := Claim7.holds Tryd.pinned (.plain (OpenSpec.ofChange civilYeardaySpec)) civilYeardayCard

/-- THE TIED CARD OF 'longcaselaw02.CivilLeaps'. -/
def civilLeapsCard : Claim7 := { stood := { row := civilLeapsRow, standIns := [], harness := (true, "3d32c45342dbbde78692675ddc6243bb2e71cfa453d543449d9acb9e422d876c"), looks := false }, kinds := [], alts := [], laidByText := true, laidKinds := [.data], laidTests := true, laidLooks := .later }
def CivilLeapsCardSaid : Prop := Claim7.holds Tryd.pinned (.plain (OpenSpec.ofChange civilLeapsSpec)) civilLeapsCard

/-- THE SECOND FORM's CARD OF 'longcaselaw02.CivilTells'. -/
def civilTellsUptoCard : Claim7 := { stood := { row := civilTellsUptoRow, standIns := [], harness := (true, "3d32c45342dbbde78692675ddc6243bb2e71cfa453d543449d9acb9e422d876c"), looks := false }, kinds := [], alts := [], laidByText := true, laidKinds := [.data], laidTests := true, laidLooks := .later }
def CivilTellsUptoCardSaid : Prop := Claim7.holds Tryd.pinned (.plain (OpenSpec.upto civilTellsSpec)) civilTellsUptoCard

/-- THE SECOND FORM's CARD OF 'longcaselaw02.CivilBack'. -/
def civilBackUptoCard : Claim7 := { stood := { row := civilBackUptoRow, standIns := [], harness := (true, "3d32c45342dbbde78692675ddc6243bb2e71cfa453d543449d9acb9e422d876c"), looks := false }, kinds := [], alts := [], laidByText := true, laidKinds := [.data], laidTests := true, laidLooks := .later }
def CivilBackUptoCardSaid : Prop := Claim7.holds Tryd.pinned (.plain (OpenSpec.upto civilBackSpec)) civilBackUptoCard

/-- THE SECOND FORM's CARD OF 'longcaselaw02.CivilNext'. -/
def civilNextUptoCard : Claim7 := { stood := { row := civilNextUptoRow, standIns := [], harness := (true, "3d32c45342dbbde78692675ddc6243bb2e71cfa453d543449d9acb9e422d876c"), looks := false }, kinds := [], alts := [], laidByText := true, laidKinds := [.data], laidTests := true, laidLooks := .later }
def CivilNextUptoCardSaid : Prop := Claim7.holds Tryd.pinned (.plain (OpenSpec.upto civilNextSpec)) civilNextUptoCard

/-- THE SECOND FORM's CARD OF 'longcaselaw02.CivilYears'. -/
def civilYearsUptoCard : Claim7 := { stood := { row := civilYearsUptoRow, standIns := [], harness := (true, "3d32c45342dbbde78692675ddc6243bb2e71cfa453d543449d9acb9e422d876c"), looks := false }, kinds := [], alts := [], laidByText := true, laidKinds := [.data], laidTests := true, laidLooks := .later }
def CivilYearsUptoCardSaid : Prop := Claim7.holds Tryd.pinned (.plain (OpenSpec.upto civilYearsSpec)) civilYearsUptoCard

/-- THE SECOND FORM's CARD OF 'longcaselaw02.CivilEnds'. -/
def civilEndsUptoCard : Claim7 := { stood := { row := civilEndsUptoRow, standIns := [], harness := (true, "3d32c45342dbbde78692675ddc6243bb2e71cfa453d543449d9acb9e422d876c"), looks := false }, kinds := [], alts := [], laidByText := true, laidKinds := [.data], laidTests := true, laidLooks := .later }
def CivilEndsUptoCardSaid : Prop := Claim7.holds Tryd.pinned (.plain (OpenSpec.upto civilEndsSpec)) civilEndsUptoCard

/-- THE SECOND FORM's CARD OF 'longcaselaw02.CivilWeeks'. -/
def civilWeeksUptoCard : Claim7 := { stood := { row := civilWeeksUptoRow, standIns := [], harness := (true, "3d32c45342dbbde78692675ddc6243bb2e71cfa453d543449d9acb9e422d876c"), looks := false }, kinds := [], alts := [], laidByText := true, laidKinds := [.data], laidTests := true, laidLooks := .later }
def CivilWeeksUptoCardSaid : Prop := Claim7.holds Tryd.pinned (.plain (OpenSpec.upto civilWeeksSpec)) civilWeeksUptoCard

/-- THE SECOND FORM's CARD OF 'longcaselaw02.CivilYearday'. -/
def civilYeardayUptoCard : Claim7 := { stood := { row := civilYeardayUptoRow, standIns := [], harness := (true, "3d32c45342dbbde78692675ddc6243bb2e71cfa453d543449d9acb9e422d876c"), looks := false }, kinds := [], alts := [], laidByText := true, laidKinds := [.data], laidTests := true, laidLooks := .later }
def CivilYeardayUptoCardSaid : Prop := Claim7.holds Tryd.pinned (.plain (OpenSpec.upto civilYeardaySpec)) civilYeardayUptoCard

/-- THE SECOND FORM's CARD OF 'longcaselaw02.CivilLeaps'. -/
def civilLeapsUptoCard : Claim7 := { stood := { row := civilLeapsUptoRow, standIns := [], harness := (true, "3d32c45342dbbde78692675ddc6243bb2e71cfa453d543449d9acb9e422d876c"), looks := false }, kinds := [], alts := [], laidByText := true, laidKinds := [.data], laidTests := true, laidLooks := .later }
def CivilLeapsUptoCardSaid : Prop := Claim7.holds Tryd.pinned (.plain (OpenSpec.upto civilLeapsSpec)) civilLeapsUptoCard
end Rows
end Go.Proofs.YtmkmopphdkgjeaaDoor
