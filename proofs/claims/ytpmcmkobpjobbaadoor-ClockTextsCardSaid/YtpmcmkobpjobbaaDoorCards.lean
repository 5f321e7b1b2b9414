/-
  DERIVED. GIVEN WITH THE SEED: THE CARDS: each row of YtpmcmkobpjobbaaDoorRows.lean that lists a variable, with what it lists TIED to the program's text (the seventh form; the later family's looks); each row that meets fmt, with fmt's text TOLD by the authors' own Lean function (tested against real Go, not proved from fmt's source: count such statements apart). THE CARD IS WHAT COUNTS. Prove the row's statement (the work); the ties are given (YtpmcmkobpjobbaaDoorTie.lean); close each card by the builder's one call (the guide's Derived/Test/ToyasCard.lean, 'card_holds'). Laid BY PROGRAM, IN A SANDBOX (cutbox-door.mjs). By AI agents, Wed Nov 11 2026. No macro, syntax, notation, axiom, sorry.
-/
import Derived.Test.YtpmcmkobpjobbaaDoorRows
import GoSem.ClaimSeven
namespace Go.Proofs.YtpmcmkobpjobbaaDoor
namespace Rows

/-- THE TIED CARD OF 'longcaselaw03.ClockTells'. -/
def clockTellsCard : Claim7 := { stood := { row := clockTellsRow, standIns := [], harness := (true, "6705395740d0a52dc7cad88c8252b49edb6a874da48a9a0795715b00b7b04c6b"), looks := false }, kinds := [], alts := [], laidByText := true, laidKinds := [.data, .data, .data, .data], laidTests := true, laidLooks := .later }
def ClockTellsCardSaid : Prop := Claim7.holds Tryd.pinned (.plain (OpenSpec.ofChange clockTellsSpec)) clockTellsCard

/-- THE TIED CARD OF 'longcaselaw03.ClockBack'. -/
def clockBackCard : Claim7 := { stood := { row := clockBackRow, standIns := [], harness := (true, "6705395740d0a52dc7cad88c8252b49edb6a874da48a9a0795715b00b7b04c6b"), looks := false }, kinds := [], alts := [], laidByText := true, laidKinds := [.data, .data, .data, .data], laidTests := true, laidLooks := .later }
def ClockBackCardSaid : Prop := Claim7.holds Tryd.pinned (.plain (OpenSpec.ofChange clockBackSpec)) clockBackCard

/-- THE TIED CARD OF 'longcaselaw03.ClockOrder'. -/
def clockOrderCard : Claim7 := { stood := { row := clockOrderRow, standIns := [], harness := (true, "6705395740d0a52dc7cad88c8252b49edb6a874da48a9a0795715b00b7b04c6b"), looks := false }, kinds := [], alts := [], laidByText := true, laidKinds := [.data, .data, .data, .data], laidTests := true, laidLooks := .later }
def ClockOrderCardSaid : Prop := Claim7.holds Tryd.pinned (.plain (OpenSpec.ofChange clockOrderSpec)) clockOrderCard

/-- THE TIED CARD OF 'longcaselaw03.ClockNext'. -/
def clockNextCard : Claim7 := { stood := { row := clockNextRow, standIns := [], harness := (true, "6705395740d0a52dc7cad88c8252b49edb6a874da48a9a0795715b00b7b04c6b"), looks := false }, kinds := [], alts := [], laidByText := true, laidKinds := [.data, .data, .data, .data], laidTests := true, laidLooks := .later }
def ClockNextCardSaid : Prop := Claim7.holds Tryd.pinned (.plain (OpenSpec.ofChange clockNextSpec)) clockNextCard

/-- THE TIED CARD OF 'longcaselaw03.ClockDays'. -/
def clockDaysCard : Claim7 := { stood := { row := clockDaysRow, standIns := [], harness := (true, "6705395740d0a52dc7cad88c8252b49edb6a874da48a9a0795715b00b7b04c6b"), looks := false }, kinds := [], alts := [], laidByText := true, laidKinds := [.data, .data, .data, .data], laidTests := true, laidLooks := .later }
def ClockDaysCardSaid : Prop := Claim7.holds Tryd.pinned (.plain (OpenSpec.ofChange clockDaysSpec)) clockDaysCard

/-- THE TIED CARD OF 'longcaselaw03.ClockTexts'. -/
def clockTextsCard : Claim7 := { stood := { row := clockTextsRow, standIns := [], harness := (true, "6705395740d0a52dc7cad88c8252b49edb6a874da48a9a0795715b00b7b04c6b"), looks := false }, kinds := [], alts := [], laidByText := true, laidKinds := [.data, .data, .data, .data], laidTests := true, laidLooks := .later }
def ClockTextsCardSaid : Prop := Claim7.holds Tryd.pinned (.plain (OpenSpec.ofChange clockTextsSpec)) clockTextsCard

/-- THE TIED CARD OF 'longcaselaw03.ClockWrong'. -/
def clockWrongCard : Claim7 := { stood := { row := clockWrongRow, standIns := [], harness := (true, "6705395740d0a52dc7cad88c8252b49edb6a874da48a9a0795715b00b7b04c6b"), looks := false }, kinds := [], alts := [], laidByText := true, laidKinds := [.data, .data, .data, .data], laidTests := true, laidLooks := .later }
def ClockWrongCardSaid : Prop := Claim7.holds Tryd.pinned (.plain (OpenSpec.ofChange clockWrongSpec)) clockWrongCard

/-- THE SECOND FORM's CARD OF 'longcaselaw03.ClockTells'. -/
def clockTellsUptoCard : Claim7 := { stood := { row := clockTellsUptoRow, standIns := [], harness := (true, "6705395740d0a52dc7cad88c8252b49edb6a874da48a9a0795715b00b7b04c6b"), looks := false }, kinds := [], alts := [], laidByText := true, laidKinds := [.data, .data, .data, .data], laidTests := true, laidLooks := .later }
def ClockTellsUptoCardSaid : Prop := Claim7.holds Tryd.pinned (.plain (OpenSpec.upto clockTellsSpec)) clockTellsUptoCard

/-- THE SECOND FORM's CARD OF 'longcaselaw03.ClockBack'. -/
def clockBackUptoCard : Claim7 := { stood := { row := clockBackUptoRow, standIns := [], harness := (true, "6705395740d0a52dc7cad88c8252b49edb6a874da48a9a0795715b00b7b04c6b"), looks := false }, kinds := [], alts := [], laidByText := true, laidKinds := [.data, .data, .data, .data], laidTests := true, laidLooks := .later }
def ClockBackUptoCardSaid : Prop := Claim7.holds Tryd.pinned (.plain (OpenSpec.upto clockBackSpec)) clockBackUptoCard

/-- THE SECOND FORM's CARD OF 'longcaselaw03.ClockOrder'. -/
def clockOrderUptoCard : Claim7 := { stood := { row := clockOrderUptoRow, standIns := [], harness := (true, "6705395740d0a52dc7cad88c8252b49edb6a874da48a9a0795715b00b7b04c6b"), looks := false }, kinds := [], alts := [], laidByText := true, laidKinds := [.data, .data, .data, .data], laidTests := true, laidLooks := .later }
def ClockOrderUptoCardSaid : Prop := Claim7.holds Tryd.pinned (.plain (OpenSpec.upto clockOrderSpec)) clockOrderUptoCard

/-- THE SECOND FORM's CARD OF 'longcaselaw03.ClockNext'. -/
def clockNextUptoCard : Claim7 := { stood := { row := clockNextUptoRow, standIns := [], harness := (true, "6705395740d0a52dc7cad88c8252b49edb6a874da48a9a0795715b00b7b04c6b"), looks := false }, kinds := [], alts := [], laidByText := true, laidKinds := [.data, .data, .data, .data], laidTests := true, laidLooks := .later }
def ClockNextUptoCardSaid : Prop := Claim7.holds Tryd.pinned (.plain (OpenSpec.upto clockNextSpec)) clockNextUptoCard

/-- THE SECOND FORM's CARD OF 'longcaselaw03.ClockDays'. -/
def clockDaysUptoCard : Claim7 := { stood := { row := clockDaysUptoRow, standIns := [], harness := (true, "6705395740d0a52dc7cad88c8252b49edb6a874da48a9a0795715b00b7b04c6b"), looks := false }, kinds := [], alts := [], laidByText := true, laidKinds := [.data, .data, .data, .data], laidTests := true, laidLooks := .later }
def ClockDaysUptoCardSaid : Prop := Claim7.holds Tryd.pinned (.plain (OpenSpec.upto clockDaysSpec)) clockDaysUptoCard

/-- THE SECOND FORM's CARD OF 'longcaselaw03.ClockTexts'. -/
def clockTextsUptoCard : Claim7 := { stood := { row := clockTextsUptoRow, standIns := [], harness := (true, "6705395740d0a52dc7cad88c8252b49edb6a874da48a9a0795715b00b7b04c6b"), looks := false }, kinds := [], alts := [], laidByText := true, laidKinds := [.data, .data, .data, .data], laidTests := true, laidLooks := .later }
def ClockTextsUptoCardSaid : Prop := Claim7.holds Tryd.pinned (.plain (OpenSpec.upto clockTextsSpec)) clockTextsUptoCard

/-- THE SECOND FORM's CARD OF 'longcaselaw03.ClockWrong'. -/
def clockWrongUptoCard : Claim7 := { stood := { row := clockWrongUptoRow, standIns := [], harness := (true, "6705395740d0a52dc7cad88c8252b49edb6a874da48a9a0795715b00b7b04c6b"), looks := false }, kinds := [], alts := [], laidByText := true, laidKinds := [.data, .data, .data, .data], laidTests := true, laidLooks := .later }
def ClockWrongUptoCardSaid : Prop := Claim7.holds Tryd.pinned (.plain (OpenSpec.upto clockWrongSpec)) clockWrongUptoCard
end Rows
end Go.Proofs.YtpmcmkobpjobbaaDoor
